/- The library: comparing strings. -/
import Derived.Test.YtdappapdddnciaaDoorH0
set_option linter.unusedVariables false
set_option linter.unusedSimpArgs false
namespace Go.Proofs.YtdappapdddnciaaDoor
open Go.RowKit
open Go.Lib hiding intOf

theorem data_toList (s : ByteArray) : s.data.toList = s.toList := (ByteArray.toList_eq s).symm
def compareSM (a b : ByteArray) : Option Int := some (Lib.compareBytes a.toList b.toList)
theorem compareSM_c (T : Nat → Prop) (W0 : World) (hT : ∀ k, T k → k < W0.heap.size) (hLv : LvP T W0) (a b : ByteArray) (y : Int) (hM : compareSM a b = some y) : Rets Tryd.prog No 45 [.string a, .string b] W0 fun v w' => v = .int .i64 y := by
  refine Calls.mono (Tryd.strings_Compare a b W0) ?_
  rintro e w' ⟨rfl, rfl⟩
  refine ⟨_, rfl, Kt.refl _ _, ?_⟩
  rw [data_toList, data_toList, ← Option.some.inj hM]
end Go.Proofs.YtdappapdddnciaaDoor
