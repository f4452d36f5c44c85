import Derived.Test.YtallfmiikjmgaaaZWsum0
set_option linter.unusedVariables false
set_option linter.unusedSimpArgs false
/- Walks: package blake: the digest. -/
namespace Go.Proofs.Ytallfmiikjmgaaa
open Go.RowKit

end Go.Proofs.Ytallfmiikjmgaaa
