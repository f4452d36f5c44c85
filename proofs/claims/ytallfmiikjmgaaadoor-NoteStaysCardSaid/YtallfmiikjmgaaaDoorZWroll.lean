import Derived.Test.YtallfmiikjmgaaaDoorMC
set_option linter.unusedVariables false
set_option linter.unusedSimpArgs false
/- Walks: the reference of layer 5: words. -/
namespace Go.Proofs.YtallfmiikjmgaaaDoor
open Go.RowKit

theorem or_roll {x : Int} (n : Nat) (h0 : 0 ≤ x) (h1 : x ≤ 4294967295) : bits .or .u32 (x / 2 ^ n) (x * 2 ^ (32 - n) % 4294967296) = ((Obol.rotW n x.toNat : Nat) : Int) := by
  obtain ⟨X, rfl⟩ := Int.eq_ofNat_of_zero_le h0
  have e1 : (X : Int) * 2 ^ (32 - n) % 4294967296 = ((X * 2 ^ (32 - n) % 4294967296 : Nat) : Int) := by simp
  have e2 : (X : Int) / 2 ^ n = ((X / 2 ^ n : Nat) : Int) := by simp
  rw [e1, e2, u32_or_nat _ _ (Nat.lt_of_le_of_lt (Nat.div_le_self _ _) (by omega)) (Nat.mod_lt _ (by decide)), Nat.or_comm]
  rfl
theorem roll16 (x : Int) (h0 : 0 ≤ x) (h1 : x ≤ 4294967295) (w : World) :
    Calls Tryd.prog 108 #[.int .u32 x, .int .i64 16] w fun e w' => e = .returned (.int .u32 ((Obol.rotW 16 x.toNat : Nat) : Int)) ∧ ∃ n, w' = w.drewN n := by
  have hr := Lib.hid (or_roll 16 h0 h1)
  go_enter Tryd.func108, Tryd.ntmps108
  go_wp2_with fail
  go_quiet (fail)
  go_wp2
  go_ret
  refine ⟨?_, _, rfl⟩
  rw [← hr.out]
  rfl
theorem roll12 (x : Int) (h0 : 0 ≤ x) (h1 : x ≤ 4294967295) (w : World) :
    Calls Tryd.prog 108 #[.int .u32 x, .int .i64 12] w fun e w' => e = .returned (.int .u32 ((Obol.rotW 12 x.toNat : Nat) : Int)) ∧ ∃ n, w' = w.drewN n := by
  have hr := Lib.hid (or_roll 12 h0 h1)
  go_enter Tryd.func108, Tryd.ntmps108
  go_wp2_with fail
  go_quiet (fail)
  go_wp2
  go_ret
  refine ⟨?_, _, rfl⟩
  rw [← hr.out]
  rfl
theorem roll8 (x : Int) (h0 : 0 ≤ x) (h1 : x ≤ 4294967295) (w : World) :
    Calls Tryd.prog 108 #[.int .u32 x, .int .i64 8] w fun e w' => e = .returned (.int .u32 ((Obol.rotW 8 x.toNat : Nat) : Int)) ∧ ∃ n, w' = w.drewN n := by
  have hr := Lib.hid (or_roll 8 h0 h1)
  go_enter Tryd.func108, Tryd.ntmps108
  go_wp2_with fail
  go_quiet (fail)
  go_wp2
  go_ret
  refine ⟨?_, _, rfl⟩
  rw [← hr.out]
  rfl
theorem roll7 (x : Int) (h0 : 0 ≤ x) (h1 : x ≤ 4294967295) (w : World) :
    Calls Tryd.prog 108 #[.int .u32 x, .int .i64 7] w fun e w' => e = .returned (.int .u32 ((Obol.rotW 7 x.toNat : Nat) : Int)) ∧ ∃ n, w' = w.drewN n := by
  have hr := Lib.hid (or_roll 7 h0 h1)
  go_enter Tryd.func108, Tryd.ntmps108
  go_wp2_with fail
  go_quiet (fail)
  go_wp2
  go_ret
  refine ⟨?_, _, rfl⟩
  rw [← hr.out]
  rfl

end Go.Proofs.YtallfmiikjmgaaaDoor
