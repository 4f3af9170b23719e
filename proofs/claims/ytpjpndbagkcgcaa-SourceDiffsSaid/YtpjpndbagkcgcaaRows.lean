/-
  No cell of these rows narrows 'for every input' (looked for: loops, veiled, ifaces, maps, wideKeys, modest, calm, conditions, laid).
  DERIVED. THE GIVEN ROWS OF THIS SEAT. 6 by the template 'for every input the law returns true; each argument reads behind the call as it read before'; 0 by the template 'total and deterministic' (their statements: YtpjpndbagkcgcaaTotals.lean).
  GIVEN WITH THE SEED: the statements are not yours to turn. If you find one false, say at which input.
  Laid BY PROGRAM, IN A SANDBOX (cutbox-rows.mjs): the forced cells as the released guide's own fill.sh prints them over the translation 3bb7cfe18079c74b… (all of the seat's roots in one cut). By AI agents, Wed Nov 11 2026. No macro, syntax, notation, axiom, sorry.
-/
import Derived.Test.YtpjpndbagkcgcaaChecked
import GoSem.Claim
import GoSem.ClaimJoined
import GoSem.ClaimMapViews
import Derived.JoinedTies
import Derived.KernelRfl
namespace Go.Proofs.Ytpjpndbagkcgcaa
/- THE CELL 'sum', in the pinned program and in every row, IS THE sha256 OF THE DUMP (.gsa) THAT YtpjpndbagkcgcaaProg.lean LOADS. Nothing in Lean hashes anything: it is a label: what it is worth is what the hold of that sum in a sandbox is worth. -/
noncomputable def Try.pinned : Pinned := { name := "ytpjpndbagkcgcaa", sum := "3bb7cfe18079c74b91268642c157ee8f347719390fe0a194a6eda7b5b19e2dc5", checked := Try.checked }
namespace Rows
def none {H : Type} : Left H := { results := [], args := [] }

/-- 'recompilelaw01.SourceLines': WHATEVER THE INPUT: true; the input reads as it did. -/
def sourceLinesSpec : ChangeSpec := { name := "sourceLines", fn := fun _ => fun
  | [d1, d2] => { results := [.lit (.bool true)], args := [d1, d2] }
  | _ => none }
def sourceLinesRow : OpenClaim := { program := "ytpjpndbagkcgcaa", sum := "3bb7cfe18079c74b91268642c157ee8f347719390fe0a194a6eda7b5b19e2dc5", func := "recompile/recompilelaw01.SourceLines", spec := "sourceLines", inPlace := ["internal/bytealg.CountString", "internal/bytealg.IndexByteString", "internal/bytealg.IndexString", "slices.overlaps[recompile/api.Source]"], unfollowed := true, recurses := true, named := ["internal/bytealg.MaxLen"], apart := false }
def SourceLinesSaid : Prop := sourceLinesRow.holds Try.pinned (OpenSpec.ofChange sourceLinesSpec)

/-- ITS FALSE NEIGHBOUR: 'it returns false'. Refute it at one input. -/
def sourceLinesWrong : ChangeSpec := { name := "sourceLines", fn := fun _ => fun
  | [d1, d2] => { results := [.lit (.bool false)], args := [d1, d2] }
  | _ => none }
def SourceLinesWrongFalsely : Prop := sourceLinesRow.holds Try.pinned (OpenSpec.ofChange sourceLinesWrong)

/-- 'recompilelaw01.SourceDiffs': WHATEVER THE INPUT: true; the input reads as it did. -/
def sourceDiffsSpec : ChangeSpec := { name := "sourceDiffs", fn := fun _ => fun
  | [d1, d2, d3] => { results := [.lit (.bool true)], args := [d1, d2, d3] }
  | _ => none }
def sourceDiffsRow : OpenClaim := { program := "ytpjpndbagkcgcaa", sum := "3bb7cfe18079c74b91268642c157ee8f347719390fe0a194a6eda7b5b19e2dc5", func := "recompile/recompilelaw01.SourceDiffs", spec := "sourceDiffs", inPlace := ["internal/bytealg.CountString", "internal/bytealg.IndexByteString", "internal/bytealg.IndexString", "slices.overlaps[recompile/api.Source]"], unfollowed := true, recurses := true, named := ["internal/bytealg.MaxLen"], apart := false }
def SourceDiffsSaid : Prop := sourceDiffsRow.holds Try.pinned (OpenSpec.ofChange sourceDiffsSpec)

/-- ITS FALSE NEIGHBOUR: 'it returns false'. Refute it at one input. -/
def sourceDiffsWrong : ChangeSpec := { name := "sourceDiffs", fn := fun _ => fun
  | [d1, d2, d3] => { results := [.lit (.bool false)], args := [d1, d2, d3] }
  | _ => none }
def SourceDiffsWrongFalsely : Prop := sourceDiffsRow.holds Try.pinned (OpenSpec.ofChange sourceDiffsWrong)

/-- 'recompilelaw01.SourceApart': WHATEVER THE INPUT: true; the input reads as it did. -/
def sourceApartSpec : ChangeSpec := { name := "sourceApart", fn := fun _ => fun
  | [d] => { results := [.lit (.bool true)], args := [d] }
  | _ => none }
def sourceApartRow : OpenClaim := { program := "ytpjpndbagkcgcaa", sum := "3bb7cfe18079c74b91268642c157ee8f347719390fe0a194a6eda7b5b19e2dc5", func := "recompile/recompilelaw01.SourceApart", spec := "sourceApart", inPlace := ["internal/bytealg.CountString", "internal/bytealg.IndexByteString", "internal/bytealg.IndexString", "slices.overlaps[recompile/api.Source]"], unfollowed := true, recurses := true, named := ["internal/bytealg.MaxLen"], apart := false }
def SourceApartSaid : Prop := sourceApartRow.holds Try.pinned (OpenSpec.ofChange sourceApartSpec)

/-- ITS FALSE NEIGHBOUR: 'it returns false'. Refute it at one input. -/
def sourceApartWrong : ChangeSpec := { name := "sourceApart", fn := fun _ => fun
  | [d] => { results := [.lit (.bool false)], args := [d] }
  | _ => none }
def SourceApartWrongFalsely : Prop := sourceApartRow.holds Try.pinned (OpenSpec.ofChange sourceApartWrong)

/-- 'recompilelaw01.SourceRaw': WHATEVER THE INPUT: true; the input reads as it did. -/
def sourceRawSpec : ChangeSpec := { name := "sourceRaw", fn := fun _ => fun
  | [d1, d2, d3] => { results := [.lit (.bool true)], args := [d1, d2, d3] }
  | _ => none }
def sourceRawRow : OpenClaim := { program := "ytpjpndbagkcgcaa", sum := "3bb7cfe18079c74b91268642c157ee8f347719390fe0a194a6eda7b5b19e2dc5", func := "recompile/recompilelaw01.SourceRaw", spec := "sourceRaw", inPlace := ["internal/bytealg.CountString", "internal/bytealg.IndexByteString", "internal/bytealg.IndexString", "slices.overlaps[recompile/api.Source]"], unfollowed := true, recurses := true, named := ["internal/bytealg.MaxLen"], apart := false }
def SourceRawSaid : Prop := sourceRawRow.holds Try.pinned (OpenSpec.ofChange sourceRawSpec)

/-- ITS FALSE NEIGHBOUR: 'it returns false'. Refute it at one input. -/
def sourceRawWrong : ChangeSpec := { name := "sourceRaw", fn := fun _ => fun
  | [d1, d2, d3] => { results := [.lit (.bool false)], args := [d1, d2, d3] }
  | _ => none }
def SourceRawWrongFalsely : Prop := sourceRawRow.holds Try.pinned (OpenSpec.ofChange sourceRawWrong)

/-- 'recompilelaw01.SourceMade': WHATEVER THE INPUT: true; the input reads as it did. -/
def sourceMadeSpec : ChangeSpec := { name := "sourceMade", fn := fun _ => fun
  | [d1, d2] => { results := [.lit (.bool true)], args := [d1, d2] }
  | _ => none }
def sourceMadeRow : OpenClaim := { program := "ytpjpndbagkcgcaa", sum := "3bb7cfe18079c74b91268642c157ee8f347719390fe0a194a6eda7b5b19e2dc5", func := "recompile/recompilelaw01.SourceMade", spec := "sourceMade", inPlace := ["internal/bytealg.CountString", "internal/bytealg.IndexByteString", "internal/bytealg.IndexString", "slices.overlaps[recompile/api.Source]"], unfollowed := true, recurses := true, named := ["internal/bytealg.MaxLen"], apart := false }
def SourceMadeSaid : Prop := sourceMadeRow.holds Try.pinned (OpenSpec.ofChange sourceMadeSpec)

/-- ITS FALSE NEIGHBOUR: 'it returns false'. Refute it at one input. -/
def sourceMadeWrong : ChangeSpec := { name := "sourceMade", fn := fun _ => fun
  | [d1, d2] => { results := [.lit (.bool false)], args := [d1, d2] }
  | _ => none }
def SourceMadeWrongFalsely : Prop := sourceMadeRow.holds Try.pinned (OpenSpec.ofChange sourceMadeWrong)

/-- 'recompilelaw01.SourceLong': WHATEVER THE INPUT: true; the input reads as it did. -/
def sourceLongSpec : ChangeSpec := { name := "sourceLong", fn := fun _ => fun
  | [d1, d2] => { results := [.lit (.bool true)], args := [d1, d2] }
  | _ => none }
def sourceLongRow : OpenClaim := { program := "ytpjpndbagkcgcaa", sum := "3bb7cfe18079c74b91268642c157ee8f347719390fe0a194a6eda7b5b19e2dc5", func := "recompile/recompilelaw01.SourceLong", spec := "sourceLong", inPlace := ["internal/bytealg.CountString", "internal/bytealg.IndexByteString", "internal/bytealg.IndexString", "slices.overlaps[recompile/api.Source]"], unfollowed := true, recurses := true, named := ["internal/bytealg.MaxLen"], apart := false }
def SourceLongSaid : Prop := sourceLongRow.holds Try.pinned (OpenSpec.ofChange sourceLongSpec)

/-- ITS FALSE NEIGHBOUR: 'it returns false'. Refute it at one input. -/
def sourceLongWrong : ChangeSpec := { name := "sourceLong", fn := fun _ => fun
  | [d1, d2] => { results := [.lit (.bool false)], args := [d1, d2] }
  | _ => none }
def SourceLongWrongFalsely : Prop := sourceLongRow.holds Try.pinned (OpenSpec.ofChange sourceLongWrong)

/- THE SECOND FORM. 'bulk': how many values and letters a reading holds, each counted each time it is reached (what is shared counts as often as it is met; a slice's spare places count too). A statement '..UptoSaid' is the law's where the arguments, and the package variables that the reading takes, are together of bulk at most 1048576: NARROWER than '..Said'. Prove '..Said' where nothing that the law and all that it calls make is longer than what came in: it says more and counts as full. Else prove '..UptoSaid'. A law counts once. -/
mutual
def uptoBulk {H : Type} : DataW H → Nat
  | .lit (.string bytes) => bytes.length + 1
  | .lit _ => 1
  | .nil => 1
  | .ptr d => uptoBulk d + 1
  | .slice elems spare => uptoBulkAll elems + uptoBulkAll spare + 1
  | .agg parts => uptoBulkAll parts + 1
  | .iface _ d => uptoBulk d + 1
  | .map entries => uptoBulkEntries entries + 1
  | .held _ => 1
def uptoBulkAll {H : Type} : List (DataW H) → Nat
  | [] => 0
  | d :: r => uptoBulk d + uptoBulkAll r
def uptoBulkEntries {H : Type} : List (Lit × DataW H) → Nat
  | [] => 0
  | x :: r => uptoBulkEntry x + uptoBulkEntries r
def uptoBulkEntry {H : Type} : Lit × DataW H → Nat
  | (.string bytes, d) => bytes.length + uptoBulk d + 1
  | (_, d) => uptoBulk d + 1
 end
def uptoSmall : (H : Type) → List (DataW H) → Bool := fun _ ds => decide (uptoBulkAll ds ≤ 1048576)
def OpenSpec.upto (s : _root_.Go.ChangeSpec) : _root_.Go.OpenSpec := { _root_.Go.OpenSpec.ofChange s with cond := some uptoSmall }

/-- 'recompilelaw01.SourceLines', WHERE WHAT IT READS IS OF BULK AT MOST 1048576: true; the input reads as it did. -/
def sourceLinesUptoRow : OpenClaim := { program := "ytpjpndbagkcgcaa", sum := "3bb7cfe18079c74b91268642c157ee8f347719390fe0a194a6eda7b5b19e2dc5", func := "recompile/recompilelaw01.SourceLines", spec := "sourceLines", inPlace := ["internal/bytealg.CountString", "internal/bytealg.IndexByteString", "internal/bytealg.IndexString", "slices.overlaps[recompile/api.Source]"], unfollowed := true, recurses := true, named := ["internal/bytealg.MaxLen"], apart := false, narrowed := true }
def SourceLinesUptoSaid : Prop := sourceLinesUptoRow.holds Try.pinned (OpenSpec.upto sourceLinesSpec)

/-- 'recompilelaw01.SourceDiffs', WHERE WHAT IT READS IS OF BULK AT MOST 1048576: true; the input reads as it did. -/
def sourceDiffsUptoRow : OpenClaim := { program := "ytpjpndbagkcgcaa", sum := "3bb7cfe18079c74b91268642c157ee8f347719390fe0a194a6eda7b5b19e2dc5", func := "recompile/recompilelaw01.SourceDiffs", spec := "sourceDiffs", inPlace := ["internal/bytealg.CountString", "internal/bytealg.IndexByteString", "internal/bytealg.IndexString", "slices.overlaps[recompile/api.Source]"], unfollowed := true, recurses := true, named := ["internal/bytealg.MaxLen"], apart := false, narrowed := true }
def SourceDiffsUptoSaid : Prop := sourceDiffsUptoRow.holds Try.pinned (OpenSpec.upto sourceDiffsSpec)

/-- 'recompilelaw01.SourceApart', WHERE WHAT IT READS IS OF BULK AT MOST 1048576: true; the input reads as it did. -/
def sourceApartUptoRow : OpenClaim := { program := "ytpjpndbagkcgcaa", sum := "3bb7cfe18079c74b91268642c157ee8f347719390fe0a194a6eda7b5b19e2dc5", func := "recompile/recompilelaw01.SourceApart", spec := "sourceApart", inPlace := ["internal/bytealg.CountString", "internal/bytealg.IndexByteString", "internal/bytealg.IndexString", "slices.overlaps[recompile/api.Source]"], unfollowed := true, recurses := true, named := ["internal/bytealg.MaxLen"], apart := false, narrowed := true }
def SourceApartUptoSaid : Prop := sourceApartUptoRow.holds Try.pinned (OpenSpec.upto sourceApartSpec)

/-- 'recompilelaw01.SourceRaw', WHERE WHAT IT READS IS OF BULK AT MOST 1048576: true; the input reads as it did. -/
def sourceRawUptoRow : OpenClaim := { program := "ytpjpndbagkcgcaa", sum := "3bb7cfe18079c74b91268642c157ee8f347719390fe0a194a6eda7b5b19e2dc5", func := "recompile/recompilelaw01.SourceRaw", spec := "sourceRaw", inPlace := ["internal/bytealg.CountString", "internal/bytealg.IndexByteString", "internal/bytealg.IndexString", "slices.overlaps[recompile/api.Source]"], unfollowed := true, recurses := true, named := ["internal/bytealg.MaxLen"], apart := false, narrowed := true }
def SourceRawUptoSaid : Prop := sourceRawUptoRow.holds Try.pinned (OpenSpec.upto sourceRawSpec)

/-- 'recompilelaw01.SourceMade', WHERE WHAT IT READS IS OF BULK AT MOST 1048576: true; the input reads as it did. -/
def sourceMadeUptoRow : OpenClaim := { program := "ytpjpndbagkcgcaa", sum := "3bb7cfe18079c74b91268642c157ee8f347719390fe0a194a6eda7b5b19e2dc5", func := "recompile/recompilelaw01.SourceMade", spec := "sourceMade", inPlace := ["internal/bytealg.CountString", "internal/bytealg.IndexByteString", "internal/bytealg.IndexString", "slices.overlaps[recompile/api.Source]"], unfollowed := true, recurses := true, named := ["internal/bytealg.MaxLen"], apart := false, narrowed := true }
def SourceMadeUptoSaid : Prop := sourceMadeUptoRow.holds Try.pinned (OpenSpec.upto sourceMadeSpec)

/-- 'recompilelaw01.SourceLong', WHERE WHAT IT READS IS OF BULK AT MOST 1048576: true; the input reads as it did. -/
def sourceLongUptoRow : OpenClaim := { program := "ytpjpndbagkcgcaa", sum := "3bb7cfe18079c74b91268642c157ee8f347719390fe0a194a6eda7b5b19e2dc5", func := "recompile/recompilelaw01.SourceLong", spec := "sourceLong", inPlace := ["internal/bytealg.CountString", "internal/bytealg.IndexByteString", "internal/bytealg.IndexString", "slices.overlaps[recompile/api.Source]"], unfollowed := true, recurses := true, named := ["internal/bytealg.MaxLen"], apart := false, narrowed := true }
def SourceLongUptoSaid : Prop := sourceLongUptoRow.holds Try.pinned (OpenSpec.upto sourceLongSpec)

end Rows
end Go.Proofs.Ytpjpndbagkcgcaa
