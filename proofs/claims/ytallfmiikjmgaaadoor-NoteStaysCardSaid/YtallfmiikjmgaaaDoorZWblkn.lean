import Derived.Test.YtallfmiikjmgaaaDoorZWblk
set_option linter.unusedVariables false
set_option linter.unusedSimpArgs false
/- Walks: package cipher: a block that is refused. -/
namespace Go.Proofs.YtallfmiikjmgaaaDoor
open Go.RowKit

set_option maxRecDepth 8000 in
theorem qBlockN (a b : Option Addr) (m n c d : Nat) (h : ¬ (m = 32 ∧ n = 12)) (count : Int) (w : World) :
    Calls Tryd.prog 93 #[.slice a m c, .slice b n d, .int .u32 count] w fun e w' => e = .returned (.tuple #[.slice none 0 0, errC 1]) ∧ w' = w := by
  have cF := Lib.hid (fun w => qFitsN a b m n c d h w)
  clear h
  go_enter Tryd.func93, Tryd.ntmps93
  go_wp2_with fail
  refine (cF.out _).mono ?_
  rintro e w1 ⟨rfl, rfl⟩
  go_wp2_with fail
  go_ret2
  exact ⟨rfl, rfl⟩

end Go.Proofs.YtallfmiikjmgaaaDoor
