import Derived.Test.YtallfmiikjmgaaaDoorZWup5
import Derived.BigQuiet
set_option linter.unusedVariables false
set_option linter.unusedSimpArgs false
/- Walks: package blake: the number of a digest. -/
namespace Obol
/-- The first eight bytes' number, the lowest first. -/
def numL (b : List Nat) : Nat := wordAt b 0 + 4294967296 * wordAt b 4
end Obol
namespace Go.Proofs.YtallfmiikjmgaaaDoor
open Go.RowKit

/-- What an error value of package api is. -/
abbrev errC (k : Int) : Value := .iface 35 (.int .i64 k)

theorem or_32 {p q : Int} (p0 : 0 ≤ p) (p1 : p < 4294967296) (q0 : 0 ≤ q) (q1 : q < 4294967296) : bits .or .u64 p (q * 4294967296) = p + 4294967296 * q := by
  obtain ⟨P, rfl⟩ := Int.eq_ofNat_of_zero_le p0
  obtain ⟨Q, rfl⟩ := Int.eq_ofNat_of_zero_le q0
  have h := Nat.two_pow_add_eq_or_of_lt (i := 32) (b := P) (by omega) Q
  have e : ((Q : Int) * 4294967296) = ((2 ^ 32 * Q : Nat) : Int) := by simp; omega
  rw [e, u64_or_nat _ _ (by omega) (by omega), Nat.or_comm, ← h]
  simp
  omega

end Go.Proofs.YtallfmiikjmgaaaDoor
