import Derived.Test.YtallfmiikjmgaaaMC
set_option linter.unusedVariables false
set_option linter.unusedSimpArgs false
/- Walks: the reference of layer 5: words. -/
namespace Go.Proofs.Ytallfmiikjmgaaa
open Go.RowKit

theorem or_roll {x : Int} (n : Nat) (h0 : 0 ≤ x) (h1 : x ≤ 4294967295) : bits .or .u32 (x / 2 ^ n) (x * 2 ^ (32 - n) % 4294967296) = ((Obol.rotW n x.toNat : Nat) : Int) := by
  obtain ⟨X, rfl⟩ := Int.eq_ofNat_of_zero_le h0
  have e1 : (X : Int) * 2 ^ (32 - n) % 4294967296 = ((X * 2 ^ (32 - n) % 4294967296 : Nat) : Int) := by simp
  have e2 : (X : Int) / 2 ^ n = ((X / 2 ^ n : Nat) : Int) := by simp
  rw [e1, e2, u32_or_nat _ _ (Nat.lt_of_le_of_lt (Nat.div_le_self _ _) (by omega)) (Nat.mod_lt _ (by decide)), Nat.or_comm]
  rfl
end Go.Proofs.Ytallfmiikjmgaaa
