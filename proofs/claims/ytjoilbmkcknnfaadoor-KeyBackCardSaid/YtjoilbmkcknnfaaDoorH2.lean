/- The library: searching in strings; comparing. -/
import Derived.Test.YtjoilbmkcknnfaaDoorH1
set_option linter.unusedVariables false
set_option linter.unusedSimpArgs false
namespace Go.Proofs.YtjoilbmkcknnfaaDoor
open Go.RowKit
open Go.Lib hiding intOf

theorem data_toList (s : ByteArray) : s.data.toList = s.toList := (ByteArray.toList_eq s).symm
def indexByteM (s : ByteArray) (c : Int) : Option Int := some (Lib.indexByte s.toList c.toNat.toUInt8)
theorem indexByteM_c (T : Nat → Prop) (W0 : World) (hT : ∀ k, T k → k < W0.heap.size) (hLv : LvP T W0) (s : ByteArray) (c : Int) (y : Int) (hM : indexByteM s c = some y) : Rets Tryd.prog No 69 [.string s, .int .u8 c] W0 fun v w' => v = .int .i64 y := by
  refine Calls.mono (Tryd.strings_IndexByte s c W0) ?_
  rintro e w' ⟨rfl, rfl⟩
  refine ⟨_, rfl, Kt.refl _ _, ?_⟩
  rw [data_toList, ← Option.some.inj hM]
def indexOneM (s sep : ByteArray) : Option Int := match sep.toList with
  | [c] => some (Lib.indexByte s.toList c)
  | _ => none
theorem indexOneM_c (T : Nat → Prop) (W0 : World) (hT : ∀ k, T k → k < W0.heap.size) (hLv : LvP T W0) (s sep : ByteArray) (y : Int) (hM : indexOneM s sep = some y) : Rets Tryd.prog No 113 [.string s, .string sep] W0 fun v w' => v = .int .i64 y := by
  unfold indexOneM at hM
  split at hM
  · rename_i c hc
    have hs : sep = ⟨#[c]⟩ := by
      rw [ByteArray.toList_eq] at hc
      exact ByteArray.ext (Array.toList_inj.1 hc)
    subst hs
    refine Calls.mono (Tryd.stringslite_Index_one s c W0) ?_
    rintro e w' ⟨rfl, h⟩
    refine ⟨_, rfl, ?_, ?_⟩
    · obtain rfl := h; exact Kt.refl _ _
    · rw [data_toList, ← Option.some.inj hM]
  · cases hM
def compareSM (a b : ByteArray) : Option Int := some (Lib.compareBytes a.toList b.toList)
theorem compareSM_c (T : Nat → Prop) (W0 : World) (hT : ∀ k, T k → k < W0.heap.size) (hLv : LvP T W0) (a b : ByteArray) (y : Int) (hM : compareSM a b = some y) : Rets Tryd.prog No 93 [.string a, .string b] W0 fun v w' => v = .int .i64 y := by
  refine Calls.mono (Tryd.strings_Compare a b W0) ?_
  rintro e w' ⟨rfl, rfl⟩
  refine ⟨_, rfl, Kt.refl _ _, ?_⟩
  rw [data_toList, data_toList, ← Option.some.inj hM]
end Go.Proofs.YtjoilbmkcknnfaaDoor
