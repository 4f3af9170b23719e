/- The library: a strings.Builder's String. -/
import Derived.Test.YtjoilbmkcknnfaaDoorH2
set_option linter.unusedVariables false
set_option linter.unusedSimpArgs false
namespace Go.Proofs.YtjoilbmkcknnfaaDoor
open Go.RowKit
open Go.Lib hiding intOf

theorem lies_off {P : Program} {e : TypeId} (hc : P.cellsOf e = 1) (count off n : Nat) (hn : off + n ≤ count) : liesAt P P.depth e count off e n = true := by
  have hd : P.depth = (2 * (P.types.size + Made.depth) + 1) + 1 := rfl
  rw [hd]
  simp only [liesAt, Bool.or_eq_true]
  left
  rw [hd]
  simp [rowAt, hc, hn, sameLayout, Nat.mod_one]
theorem load_bytes {P : Program} (w : World) : ∀ (l : List Int) (b off : Nat) (acc : ByteArray), (∀ j x, l[j]? = some x → w.cell? ⟨b, off + j, none⟩ = some (.int .u8 x)) →
    (loadBytes ⟨b, off, none⟩ acc l.length).run P w = .ok ⟨acc.data ++ (l.map fun n => UInt8.ofNat n.toNat).toArray⟩ w
  | [], b, off, acc, _ => by simp [loadBytes]
  | x :: l, b, off, acc, h => by
    have h0 : w.cell? ⟨b, off, none⟩ = some (.int .u8 x) := h 0 x rfl
    have ih := load_bytes (P := P) w l b (off + 1) (acc.push (UInt8.ofNat x.toNat)) fun j y hy => by
      have := h (j + 1) y (by simpa using hy)
      rwa [show off + 1 + j = off + (j + 1) by omega]
    have hx : (x.toNat).toUInt8 = UInt8.ofNat x.toNat := rfl
    have ha : (⟨b, off, none⟩ : Addr).add 1 = ⟨b, off + 1, none⟩ := Addr.add_lit ..
    simp only [List.length_cons, loadBytes, Sem.run_bind, run_load, h0, Result.andThen, hx, ha]
    rw [ih]
    congr 1
    apply ByteArray.ext
    simp [ByteArray.push]
theorem us_run {P : Program} (w : World) (pt it ty e : TypeId) (hp : P.underlying pt = some (.pointer e)) (hc : P.cellsOf e = 1) (g off cells : Nat) (hsh : w.shape? g = some (e, cells)) (l : List Int) (h0 : 0 < l.length) (hn : off + l.length ≤ cells) (h63 : l.length ≤ 9223372036854775807)
    (hcell : ∀ j x, l[j]? = some x → w.cell? ⟨g, off + j, none⟩ = some (.int .u8 x)) :
    (Builtin.unsafeString_ #[pt, it] ty #[.pointer (some ⟨g, off, none⟩), .int .i64 l.length]).run P w = .ok (.string (strI l)) (w.freeze ⟨g, off, none⟩ l.length) := by
  have hl : l.length ≠ 0 := by omega
  have hlb := load_bytes (P := P) w l g off .empty hcell
  have hlies := lies_off (P := P) hc (cells / P.cellsOf e) off l.length (by rw [hc]; simpa using hn)
  have h63' : ¬ (9223372036854775807 : Int) < (l.length : Int) := by omega
  have hdef : Builtin.unsafeString_ #[pt, it] ty #[.pointer (some ⟨g, off, none⟩), .int .i64 l.length] =
      (do
        let n ← asInt (.int .i64 l.length)
        if n < 0 then runtimePanic (.error "unsafe.String: len out of range")
        if n > IntKind.i64.max then unsupported (.unsafePointer "String: a length above the largest int")
        if n = 0 then pure (.string .empty)
        else if ← variablesAt ⟨g, off, none⟩ (← elemOf pt) n.toNat then do
          let s ← loadBytes ⟨g, off, none⟩ .empty n.toNat
          freeze ⟨g, off, none⟩ n.toNat
          pure (.string s)
        else unsupported (.unsafePointer "String: not so many bytes at ptr")) := rfl
  rw [hdef]
  have hmax : IntKind.i64.max = 9223372036854775807 := rfl
  have hneg : ¬ (l.length : Int) < 0 := by omega
  have hs : strI l = ⟨(ByteArray.empty).data ++ (l.map fun n => UInt8.ofNat n.toNat).toArray⟩ := by simp [strI]
  rw [hs]
  simp [asInt, asIntOf, hmax, h63', hneg, hl, variablesAt, hsh, elemOf, run_underlying hp, hlies, hlb]
theorem kt_freeze (w : World) (g off n : Nat) : Kt (fun k => k = g) w (w.freeze ⟨g, off, none⟩ n) := by
  unfold World.freeze
  split
  · exact Kt.refl _ _
  · exact ⟨rfl, rfl, rfl, by simp, fun k hk hne => by
      simp only [Array.getElem?_modify]
      rw [if_neg (fun e => hne e.symm)]⟩
theorem dnil (W w : World) (D0 : List Res) : DNew W w D0 [] := ⟨fun r h => (by cases h), fun r h => (by cases h), List.Pairwise.nil⟩
set_option maxHeartbeats 1000000 in
set_option maxRecDepth 100000 in
theorem bs_c (W0 : World) (b : Nat) (p v : Value) (cl : List Value) (xs : List Int) (hb : W0.heap[b]? = some (.cells #[p, v] 81 (0, 0))) (ho : Own W0 0 5 1 v cl) (hcl : cl = xs.map (Value.int .u8)) (hx : decide (0 < xs.length) = true) (h63 : xs.length ≤ 4294967296) :
    Rets Tryd.prog (MD [.own v 5 (Rep.int .u8).size cl]) 66 [.pointer (some ⟨b, 0, none⟩)] W0 fun u w' => u = .string (strI xs) := by
  have hpos := of_decide_eq_true hx
  rcases ho with ⟨rfl, h0⟩ | ⟨g, off, n, cap, cs, rfl, h1, _, hg, hnc, hcap, hsz, hcs⟩
  · rw [h0] at hcl
    have := congrArg List.length hcl
    simp at this; omega
  · have hn : n = xs.length := by have := congrArg List.length hcl; simp at this; omega
    subst hn
    have c1 : W0.drew.cell? ⟨b, 1, none⟩ = some (.slice (some ⟨g, off, none⟩) xs.length cap) := by
      have : W0.drew.heap[b]? = some (.cells #[p, .slice (some ⟨g, off, none⟩) xs.length cap] 81 (0, 0)) := hb
      rw [Lib.cell_of_heap this]; rfl
    have hSD : (Builtin.unsafeSliceData_ #[31] 111 #[.slice (some ⟨g, off, none⟩) xs.length cap]).run Tryd.prog W0.drew = .ok (.pointer (some ⟨g, off, none⟩)) W0.drew :=
      Lib.run_unsafeSliceData_row _ _ _ _ _ _ (by omega)
    obtain ⟨fz, hg0, _⟩ := id hg
    have hg' : W0.drew.heap[g]? = some (.cells cs 5 fz) := hg0
    have hUS : (Builtin.unsafeString_ #[111, 3] 9 #[.pointer (some ⟨g, off, none⟩), .int .i64 xs.length]).run Tryd.prog W0.drew = .ok (.string (strI xs)) (W0.drew.freeze ⟨g, off, none⟩ xs.length) := by
      refine us_run W0.drew 111 3 9 5 Tryd.underlying111 (by kernel_rfl) g off cs.size (by simp [World.shape?, hg']) xs hpos (by omega) (by omega) fun j x hx => ?_
      rw [cell_of_row _ g _ cs 5 fz hg']
      exact hcs j _ (by rw [hcl, List.getElem?_map, hx]; rfl)
    have mixed : Tryd.prog.follows .mixedOrders = true := by kernel_rfl
    go_enter Tryd.func66, Tryd.ntmps66
    go_wp2
    go_region_o
    all_goals (go_wp2; go_ret; exact ⟨_, rfl, ((Kt.drew W0).no.trans ((kt_freeze W0.drew g off _).mono fun k h => ⟨_, List.mem_singleton_self _, by rw [h]; rfl⟩)), rfl⟩)
end Go.Proofs.YtjoilbmkcknnfaaDoor
