/- Rules, plain: values. -/
import Derived.Test.YthpeklnhkkadjaaDoorUK
import Derived.Test.YthpeklnhkkadjaaDoorUG
import Derived.Test.YthpeklnhkkadjaaDoorD4
set_option linter.unusedVariables false
set_option linter.unusedSimpArgs false
namespace Go.Proofs.YthpeklnhkkadjaaDoor
open Go.RowKit
open Go.Lib hiding intOf

theorem value_is {n : Nat} (h : n < 65536) : toy_Value (itoaS n) = some n := by
  unfold toy_Value
  rw [atoiM_dec (by omega)]
  simp only [Option.bind_some]
  rw [show decide ((n : Int) < 0) = false by simp, show decide ((65535 : Int) < (n : Int)) = false by simp; omega, itoaM_nat (by omega)]
  simp

end Go.Proofs.YthpeklnhkkadjaaDoor
