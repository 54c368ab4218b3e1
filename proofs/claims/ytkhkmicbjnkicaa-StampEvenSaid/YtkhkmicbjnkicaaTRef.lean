/-
  Contracts of functions, and plain facts about them, that a claim of this seat uses.
-/
import Derived.Test.YtkhkmicbjnkicaaSx
import Derived.Test.YtkhkmicbjnkicaaTWideNum
import Derived.Test.YtkhkmicbjnkicaaProg
namespace Go.Proofs.Ytkhkmicbjnkicaa
open Go.Sx
set_option linter.unusedVariables false
set_option linter.unusedSimpArgs false
set_option maxRecDepth 100000

theorem mixed : Try.prog.follows .mixedOrders = true := by kernel_rfl
def U64 (n : Int) : Prop := 0 ≤ n ∧ n < 18446744073709551616
def val2 (x : Int × Int) : Int := x.1 * 18446744073709551616 + x.2

end Go.Proofs.Ytkhkmicbjnkicaa
