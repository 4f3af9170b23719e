/- slices.Backward over records: what its closure hands to a loop's body. -/
import Derived.RangeFuncBox
import Derived.RangeFuncLeaves
import Derived.RangeFuncWrites
import Derived.RangeFuncCalls
import Derived.RangeFuncNested
import Derived.Shelf.Abstract
import Derived.WalkKit
import Derived.OwnWalkIn
import Derived.TacticsInMore
import Derived.LoopNIn
import Derived.LoopIn
import Derived.Maps.OwnIn
import Derived.IntWalk
import Derived.Test.YtdappapdddnciaaDoorE1
import Derived.Test.YtdappapdddnciaaDoorD0
set_option linter.unusedVariables false
set_option linter.unusedSimpArgs false
namespace Go.Proofs.YtdappapdddnciaaDoor
open Go.RowKit Go.Shelf

attribute [local go_sem] Oper.semAt_some

/-- the places of a slice, from the last one on: k of them -/
def downto (n k : Nat) : List Nat := (List.range k).map fun j => n - 1 - j
theorem downto_succ (n k : Nat) : downto n (k + 1) = downto n k ++ [n - 1 - k] := by simp [downto, List.range_succ]
theorem downto_length (n k : Nat) : (downto n k).length = k := by simp [downto]

/-- below B nothing has turned, but for one block -/
structure KpB (B mb : Nat) (W W' : World) : Prop where
  size : W.heap.size ≤ W'.heap.size
  block : ∀ k, k < B → k ≠ mb → W'.heap[k]? = W.heap[k]?
theorem KpB.refl (B mb : Nat) (W : World) : KpB B mb W W := ⟨Nat.le_refl _, fun _ _ _ => rfl⟩
theorem KpB.trans {B mb : Nat} {X Y Z : World} (h : KpB B mb X Y) (k : KpB B mb Y Z) : KpB B mb X Z := ⟨Nat.le_trans h.size k.size, fun i h1 h2 => (k.block i h1 h2).trans (h.block i h1 h2)⟩
theorem KpB.cell {B mb : Nat} {W W' : World} (h : KpB B mb W W') {p : Addr} (h1 : p.block < B) (h2 : p.block ≠ mb) : W'.cell? p = W.cell? p := World.cell?_of_block (w := W) (h.block _ h1 h2)
theorem KpB.putObj {B mb : Nat} (W : World) (l : Nat) (o' : Obj) (h : B ≤ l) : KpB B mb W (W.putObj l o') := ⟨by simp, fun k h1 _ => World.putObj_heap_other (by omega)⟩

set_option maxRecDepth 100000 in
set_option maxHeartbeats 2000000 in
theorem back1_in (F : Fence) (n : Nat) (h37 : F.fn 37) (hro : F.round = none) (hn : 1 ≤ n) (l Bs B mb b off len cap : Nat) (c0 : Nat → Int) (c1 c2 : Nat → ByteArray) (c3 : Nat → Value) (c4 c5 c6 : Nat → Int) (c7 : Nat → Bool) (hone : ∀ k, (c3 k).oneCell' = true) (hreach : len ≤ maxLen) (hb : b < B) (hb2 : b ≠ mb) (hBn : Bs < B) (hBn2 : Bs ≠ mb) (J Jx : List Nat → World → Prop)
    (hY : ∀ pre (x : Nat) W, J pre W → pre.length < len → YieldAt F (n - 1) Tryd.prog l #[.int .i64 (x : Int), .agg #[.int .i64 (c0 x), .string (c1 x), .string (c2 x), c3 x, .int .i64 (c4 x), .int .i64 (c5 x), .int .i64 (c6 x), .bool (c7 x)]] W fun e W' =>
      (e = .returned (.bool true) ∧ J (pre ++ [x]) W' ∧ KpB B mb W W') ∨ (e = .returned (.bool false) ∧ Jx (pre ++ [x]) W'))
    (W : World) (hBs : W.cell? ⟨Bs, 0, none⟩ = some (.slice (some ⟨b, off, none⟩) len cap)) (hcells : ∀ k, k < len → ∀ j u, ([.int .i64 (c0 k), .string (c1 k), .string (c2 k), c3 k, .int .i64 (c4 k), .int .i64 (c5 k), .int .i64 (c6 k), .bool (c7 k)] : List Value)[j]? = some u → W.cell? ⟨b, off + k * 8 + j, none⟩ = some u) (h0 : J [] W) :
    CallsIn F n Tryd.prog 37 #[.func (.yield l) #[] #[], .pointer (some ⟨Bs, 0, none⟩)] W fun e W' => (∃ v, e = .returned v) ∧
      ((∃ ys, ys = downto len len ∧ J ys W') ∨ (∃ pre, (∃ k, k ≤ len ∧ pre = downto len k) ∧ Jx pre W')) := by
  refine callsIn_of_wp Tryd.func37 rfl h37 ?_ hro
  simp only [Tryd.ntmps37, List.size_toArray, List.length_cons, List.length_nil, Nat.reduceAdd, Nat.reduceSub, Array.replicate_succ, Array.replicate_zero, List.push_toArray, List.append_toArray, List.nil_append, List.cons_append]
  gi_wp2
  gi_loopw [3] (fun i wr => ∃ k : Nat, k ≤ len ∧ i = .int .i64 ((len : Int) - 1 - k) ∧ J (downto len k) wr ∧ KpB B mb W wr)
    (fun i _ => (intOf i + 1).toNat)
  case atStart => exact ⟨0, Nat.zero_le _, by simp; exact IntWalk.wrap64_in _ (by have := hreach; unfold maxLen at this; omega), h0, KpB.refl _ _ _⟩
  case round =>
    obtain ⟨k, hk, rfl, hJs, hnx⟩ := hrel
    by_cases hlt : k < len
    · obtain ⟨fn, tmps, assign, body, hy, hR⟩ := hY _ (len - 1 - k) wr hJs (by rw [downto_length]; exact hlt)
      have hBs' := (hnx.cell (p := ⟨Bs, 0, none⟩) hBn hBn2).trans hBs
      rw [show ((len - 1 - k : Nat) : Int) = (len : Int) - 1 - k by omega] at hy
      have hce : ∀ j u, ([.int .i64 (c0 (len - 1 - k)), .string (c1 (len - 1 - k)), .string (c2 (len - 1 - k)), c3 (len - 1 - k), .int .i64 (c4 (len - 1 - k)), .int .i64 (c5 (len - 1 - k)), .int .i64 (c6 (len - 1 - k)), .bool (c7 (len - 1 - k))] : List Value)[j]? = some u → wr.cell? ⟨b, off + (len - 1 - k) * 8 + j, none⟩ = some u := fun j u hu =>
        (hnx.cell (p := ⟨b, off + (len - 1 - k) * 8 + j, none⟩) hb hb2).trans (hcells _ (by omega) j u hu)
      have e0 : wr.cell? ⟨b, off + (len - 1 - k) * 8, none⟩ = some (.int .i64 (c0 (len - 1 - k))) := hce 0 _ rfl
      have e1 := hce 1 _ rfl
      have e2 := hce 2 _ rfl
      have e3 := hce 3 _ rfl
      have e4 := hce 4 _ rfl
      have e5 := hce 5 _ rfl
      have e6 := hce 6 _ rfl
      have e7 := hce 7 _ rfl
      gi_wp2
      refine hR.mono ?_
      rintro e W3 (⟨rfl, hJ3, hk3⟩ | ⟨rfl, hJx3⟩)
      · gi_wp2
        go_roundw
        case rel => exact ⟨k + 1, by omega, by simp; rw [IntWalk.wrap64_in _ (by have := hreach; unfold maxLen at this; omega)]; omega, by rw [downto_succ]; exact hJ3, hnx.trans hk3⟩
        case measure => simp [intOf]; rw [IntWalk.wrap64_in _ (by have := hreach; unfold maxLen at this; omega)]; omega
      · gi_wp2
        refine bodyPost_ret (results_none rfl _ _ _) rfl ?_
        exact ⟨⟨_, rfl⟩, .inr ⟨_, ⟨k + 1, by omega, (downto_succ _ _).symm⟩, hJx3⟩⟩
    · obtain rfl : k = len := by omega
      gi_wp2
      go_end0
      exact ⟨⟨_, rfl⟩, .inl ⟨_, rfl, hJs⟩⟩
set_option maxRecDepth 100000 in
set_option maxHeartbeats 2000000 in
theorem back0_in (F : Fence) (n : Nat) (h37 : F.fn 37) (hro : F.round = none) (l Bs : Nat) (A : Option Addr) (cap : Nat) (J : List Nat → World → Prop)
    (W : World) (hBs : W.cell? ⟨Bs, 0, none⟩ = some (.slice A 0 cap)) (h0 : J [] W) :
    CallsIn F n Tryd.prog 37 #[.func (.yield l) #[] #[], .pointer (some ⟨Bs, 0, none⟩)] W fun e W' => (∃ v, e = .returned v) ∧ J [] W' := by
  refine callsIn_of_wp Tryd.func37 rfl h37 ?_ hro
  simp only [Tryd.ntmps37, List.size_toArray, List.length_cons, List.length_nil, Nat.reduceAdd, Nat.reduceSub, Array.replicate_succ, Array.replicate_zero, List.push_toArray, List.append_toArray, List.nil_append, List.cons_append]
  gi_wp2
  gi_loopw [3] (fun i wr => i = .int .i64 (-1) ∧ J [] wr) (fun _ _ => 0)
  case atStart => exact ⟨by simp, h0⟩
  case round =>
    obtain ⟨rfl, hJs⟩ := hrel
    gi_wp2
    go_end0
    exact ⟨⟨_, rfl⟩, hJs⟩

/-- a record's cells, its reads lying at u -/
def recC (x : RecordD) (u : Value) : List Value := [.int .i64 x.Key.Kind, .string x.Key.Text, .string x.Value, u, .int .i64 x.Changed, .int .i64 x.Verified, .int .i64 x.Cost, .bool x.Dirty]
def recN : RecordD := ⟨⟨0, ⟨#[]⟩⟩, ⟨#[]⟩, [], 0, 0, 0, false⟩
/-- the record at a place, where its reads lie -/
def recA (xs : List RecordD) (k : Nat) : RecordD := xs[k]?.getD recN
theorem rec_pick {T : Nat → Prop} {w : World} {v : Value} {xs : List RecordD} (h : SlR R_RecordD T w v xs) :
    ∃ (fa : Nat → Option Addr) (fc : Nat → Nat), (∀ k, SlR R_KeyD T w (.slice (fa k) (recA xs k).Reads.length (fc k)) (recA xs k).Reads) ∧ ∃ A cap, v = .slice A xs.length cap ∧ xs.length ≤ maxLen ∧ (xs = [] ∨ ∃ b off, A = some ⟨b, off, none⟩ ∧ ¬ T b ∧ b < w.heap.size ∧ ∀ k, k < xs.length → ∀ j u, (recC (recA xs k) (.slice (fa k) (recA xs k).Reads.length (fc k)))[j]? = some u → w.cell? ⟨b, off + k * 8 + j, none⟩ = some u) := by
  obtain ⟨A, c, rfl, h1, h2, h3⟩ := h
  rcases h3 with rfl | ⟨b, off, rfl, hc⟩
  · exact ⟨fun _ => none, fun _ => 0, fun k => SlR.nil_ _ _ _, A, c, rfl, Nat.le_trans h1 h2, .inl rfl⟩
  · have key : ∀ k, ∃ p : Option Addr × Nat, SlR R_KeyD T w (.slice p.1 (recA xs k).Reads.length p.2) (recA xs k).Reads ∧ (k < xs.length → CellsAt T w b (off + k * 8) (recC (recA xs k) (.slice p.1 (recA xs k).Reads.length p.2))) := by
      intro k
      by_cases hk : k < xs.length
      · have hx : xs[k]? = some xs[k] := List.getElem?_eq_getElem hk
        obtain ⟨cs, g1, g2⟩ := hc k _ hx
        have hr : recA xs k = xs[k] := by unfold recA; rw [hx]; rfl
        obtain ⟨u, rfl, g3⟩ := g1
        have g3' := g3
        obtain ⟨A', c', rfl, _⟩ := g3'
        exact ⟨(A', c'), by rw [hr]; exact g3, fun _ => by rw [hr]; exact g2⟩
      · exact ⟨(none, 0), by unfold recA; rw [List.getElem?_eq_none (by omega)]; exact SlR.nil_ _ _ _, fun h => absurd h hk⟩
    refine ⟨fun k => (Classical.choose (key k)).1, fun k => (Classical.choose (key k)).2, fun k => (Classical.choose_spec (key k)).1, _, c, rfl, Nat.le_trans h1 h2, ?_⟩
    rcases xs with _ | ⟨x, r⟩
    · exact .inl rfl
    · refine .inr ⟨b, off, rfl, ?_, ?_, fun k hk j u hu => ((Classical.choose_spec (key k)).2 hk).2.2 j u hu⟩
      · obtain ⟨cs, _, g2⟩ := hc 0 x rfl; exact g2.1
      · obtain ⟨cs, _, g2⟩ := hc 0 x rfl; exact g2.2.1
end Go.Proofs.YtdappapdddnciaaDoor
