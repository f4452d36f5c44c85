import Derived.Test.YtallfmiikjmgaaaZWnum
import Derived.Lib.IfaceEq
set_option linter.unusedVariables false
set_option linter.unusedSimpArgs false
/- Walks: package blake: what is amiss: a person that is too long; a number below 0. -/
namespace Go.Proofs.Ytallfmiikjmgaaa
open Go.RowKit

theorem eqErrC (W : World) (a b : Int) : (binOp .eql 25 (.iface 28 (.int .i64 a)) (.iface 28 (.int .i64 b))).run Try.prog W = .ok (.bool (a == b)) W :=
  Lib.run_eql_iface_int W a b Try.underlying25 (by kernel_rfl) Try.underlying28
end Go.Proofs.Ytallfmiikjmgaaa
