import Derived.Test.YtiffendfojhapaaDoorZWnum
import Derived.Lib.IfaceEq
set_option linter.unusedVariables false
set_option linter.unusedSimpArgs false
/- Walks: package blake: what is amiss: a person that is too long; a number below 0. -/
namespace Go.Proofs.YtiffendfojhapaaDoor
open Go.RowKit

theorem eqErrC (W : World) (a b : Int) : (binOp .eql 25 (.iface 28 (.int .i64 a)) (.iface 28 (.int .i64 b))).run Tryd.prog W = .ok (.bool (a == b)) W :=
  Lib.run_eql_iface_int W a b Tryd.underlying25 (by kernel_rfl) Tryd.underlying28
theorem bSumLong (s : ByteArray) (hs : 8 < s.size) (ao : Option Addr) (len cap : Nat) (w : World) :
    Calls Tryd.prog 16 #[.string s, .slice ao len cap] w fun e w' => e = .returned (.tuple #[.slice none 0 0, errC 5]) ∧ w' = w := by
  have hs' : (8 : Int) < (s.size : Int) := by omega
  go_enter Tryd.func16, Tryd.ntmps16
  go_wp2_with fail
  go_ret2
  exact ⟨rfl, rfl⟩
theorem bNumberLong (s : ByteArray) (hs : 8 < s.size) (ao : Option Addr) (len cap : Nat) (m : Int) (w : World) :
    Calls Tryd.prog 18 #[.string s, .slice ao len cap, .int .u64 m] w fun e w' => e = .returned (.tuple #[.int .u64 0, errC 5]) ∧ w' = w := by
  have c := Lib.hid (bSumLong s hs ao len cap w)
  go_enter Tryd.func18, Tryd.ntmps18
  go_wp2_with fail
  refine c.out.mono ?_
  rintro e w' ⟨rfl, rfl⟩
  go_wp2_with fail
  go_ret2
  exact ⟨rfl, rfl⟩
theorem bNumberZero (s : ByteArray) (hs : s.size ≤ 8) (ao : Option Addr) (len cap : Nat) (L : List Nat) (H : B8 len L) (w : World) (hS : SlI w.heap.size w ao cap L) (hG : RowsAt w) :
    Calls Tryd.prog 18 #[.string s, .slice ao len cap, .int .u64 0] w fun e w' => e = .returned (.tuple #[.int .u64 0, errC 1]) ∧ Below w.heap.size w w' := by
  have cS := Lib.hid (bSum2 s hs ao len cap L H w hS hG)
  go_enter Tryd.func18, Tryd.ntmps18
  go_wp2_with fail
  refine cS.out.mono ?_
  rintro e w1 ⟨g, cap2, rfl, hg, hO, hb⟩
  have hB := Lib.hid hb
  clear hb hO cS
  go_wp2_with fail
  go_ret2
  exact ⟨rfl, hB.out⟩

end Go.Proofs.YtiffendfojhapaaDoor
