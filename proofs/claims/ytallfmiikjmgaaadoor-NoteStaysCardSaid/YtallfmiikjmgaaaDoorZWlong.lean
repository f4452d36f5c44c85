import Derived.Test.YtallfmiikjmgaaaDoorZWnum
import Derived.Lib.IfaceEq
set_option linter.unusedVariables false
set_option linter.unusedSimpArgs false
/- Walks: package blake: what is amiss: a person that is too long; a number below 0. -/
namespace Go.Proofs.YtallfmiikjmgaaaDoor
open Go.RowKit

theorem eqErrC (W : World) (a b : Int) : (binOp .eql 25 (.iface 35 (.int .i64 a)) (.iface 35 (.int .i64 b))).run Tryd.prog W = .ok (.bool (a == b)) W :=
  Lib.run_eql_iface_int W a b Tryd.underlying25 (by kernel_rfl) Tryd.underlying35
theorem bSumLong (s : ByteArray) (hs : 8 < s.size) (ao : Option Addr) (len cap : Nat) (w : World) :
    Calls Tryd.prog 64 #[.string s, .slice ao len cap] w fun e w' => e = .returned (.tuple #[.slice none 0 0, errC 5]) ∧ w' = w := by
  have hs' : (8 : Int) < (s.size : Int) := by omega
  go_enter Tryd.func64, Tryd.ntmps64
  go_wp2_with fail
  go_ret2
  exact ⟨rfl, rfl⟩
end Go.Proofs.YtallfmiikjmgaaaDoor
