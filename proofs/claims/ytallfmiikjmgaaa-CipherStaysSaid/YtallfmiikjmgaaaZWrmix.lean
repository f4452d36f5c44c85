import Derived.Test.YtallfmiikjmgaaaZWroll
import Derived.Test.YtallfmiikjmgaaaMC
import Derived.Deep.RegionWith
import Derived.Deep.CutBlock
import Derived.Deep.DeepCutAuto
set_option linter.unusedVariables false
set_option linter.unusedSimpArgs false
/- Walks: the reference of layer 5: the mixing of four words. -/
namespace Go.Proofs.Ytallfmiikjmgaaa
open Go.RowKit

abbrev zeros16 : Array Value := #[.int .u32 0, .int .u32 0, .int .u32 0, .int .u32 0, .int .u32 0, .int .u32 0, .int .u32 0, .int .u32 0, .int .u32 0, .int .u32 0, .int .u32 0, .int .u32 0, .int .u32 0, .int .u32 0, .int .u32 0, .int .u32 0]
theorem add3_is' {p q x : Int} {P Q : Nat} (hp : (P : Int) = p) (hq : (Q : Int) = q) (hx : 0 ≤ x) : ((p + q) % 4294967296 + x) % 4294967296 = ((Obol.add3 P Q x.toNat : Nat) : Int) := by
  unfold Obol.add3; omega

end Go.Proofs.Ytallfmiikjmgaaa
