import Derived.Test.YtcdfpceagobicaaDoorWdiv
import Derived.Test.YtcdfpceagobicaaDoorMod
/- Walks: package modular: sums, differences, products. -/
namespace Go.Proofs.YtcdfpceagobicaaDoor
open Go.RowKit

theorem no_ok (m : Int) (h0 : 2 ≤ m) (h1 : m ≤ 4611686018427387904) (w : World) :
    Calls Tryd.prog 43 #[.int .u64 m] w fun e w' => e = .returned (.bool false) ∧ w = w' := by
  go_enter Tryd.func43, Tryd.ntmps43
  go_wp2
  go_ret
  refine ⟨?_, rfl⟩
  show Ending.returned (.bool (decide (m < 2) || decide (4611686018427387904 < m))) = _
  rw [decide_eq_false (by omega), decide_eq_false (by omega)]
  rfl

/-- What the sum and the difference come to, as the walk spells them. -/
theorem end_add (m a b : Int) (h0 : 2 ≤ m) (h1 : m ≤ 4611686018427387904) (ha : 0 ≤ a) (hb : 0 ≤ b) :
    (IntKind.u64.wrap (a % m + b % m)).tmod m = ((Obol.addM m.toNat a.toNat b.toNat : Nat) : Int) := by
  have h2 := Int.emod_nonneg a (show m ≠ 0 by omega)
  have h3 := Int.emod_lt_of_pos a (show 0 < m by omega)
  have h4 := Int.emod_nonneg b (show m ≠ 0 by omega)
  have h5 := Int.emod_lt_of_pos b (show 0 < m by omega)
  rw [IntKind.wrap_u64, Int.emod_eq_of_lt (by omega) (by omega), Int.tmod_eq_emod_of_nonneg (by omega), ← Int.add_emod, Obol.addM, Int.natCast_emod, Int.natCast_add, Int.toNat_of_nonneg ha, Int.toNat_of_nonneg hb, Int.toNat_of_nonneg (by omega)]
theorem end_sub (m a b : Int) (h0 : 2 ≤ m) (h1 : m ≤ 4611686018427387904) (ha : 0 ≤ a) (hb : 0 ≤ b) :
    (IntKind.u64.wrap (IntKind.u64.wrap (a % m + m) - b % m)).tmod m = ((Obol.subM m.toNat a.toNat b.toNat : Nat) : Int) := by
  have h2 := Int.emod_nonneg a (show m ≠ 0 by omega)
  have h3 := Int.emod_lt_of_pos a (show 0 < m by omega)
  have h4 := Int.emod_nonneg b (show m ≠ 0 by omega)
  have h5 := Int.emod_lt_of_pos b (show 0 < m by omega)
  have e1 : (((a.toNat % m.toNat : Nat)) : Int) = a % m := by rw [Int.natCast_emod, Int.toNat_of_nonneg ha, Int.toNat_of_nonneg (by omega)]
  have e2 : (((b.toNat % m.toNat : Nat)) : Int) = b % m := by rw [Int.natCast_emod, Int.toNat_of_nonneg hb, Int.toNat_of_nonneg (by omega)]
  rw [IntKind.wrap_u64 (a % m + m), Int.emod_eq_of_lt (by omega) (by omega), IntKind.wrap_u64, Int.emod_eq_of_lt (by omega) (by omega), Int.tmod_eq_emod_of_nonneg (by omega), Obol.subM, Int.natCast_emod, Int.natCast_sub (by omega), Int.natCast_add, e1, e2, Int.toNat_of_nonneg (by omega)]

theorem mAdd (m a b : Int) (h0 : 2 ≤ m) (h1 : m ≤ 4611686018427387904) (ha : 0 ≤ a) (hb : 0 ≤ b) (w : World) :
    Calls Tryd.prog 41 #[.int .u64 m, .int .u64 a, .int .u64 b] w fun e w' => e = .returned (.int .u64 ((Obol.addM m.toNat a.toNat b.toNat : Nat) : Int)) ∧ ∃ n, w' = w.drewN n := by
  have he := Lib.hid (end_add m a b h0 h1 ha hb)
  go_enter Tryd.func41, Tryd.ntmps41
  go_wp2_with (go_at_call 43; refine (no_ok _ h0 h1 _).mono ?_; rintro e w' ⟨rfl, rfl⟩)
  go_quiet (fail)
  go_wp2
  go_ret
  exact ⟨ret_u64 he.out, _, rfl⟩

theorem mSub (m a b : Int) (h0 : 2 ≤ m) (h1 : m ≤ 4611686018427387904) (ha : 0 ≤ a) (hb : 0 ≤ b) (w : World) :
    Calls Tryd.prog 40 #[.int .u64 m, .int .u64 a, .int .u64 b] w fun e w' => e = .returned (.int .u64 ((Obol.subM m.toNat a.toNat b.toNat : Nat) : Int)) ∧ ∃ n, w' = w.drewN n := by
  have he := Lib.hid (end_sub m a b h0 h1 ha hb)
  go_enter Tryd.func40, Tryd.ntmps40
  go_wp2_with (go_at_call 43; refine (no_ok _ h0 h1 _).mono ?_; rintro e w' ⟨rfl, rfl⟩)
  go_quiet (fail)
  go_wp2
  go_ret
  exact ⟨ret_u64 he.out, _, rfl⟩

theorem mMul (m a b : Int) (h0 : 2 ≤ m) (h1 : m ≤ 4611686018427387904) (ha : 0 ≤ a) (hb : 0 ≤ b) (w : World) :
    Calls Tryd.prog 44 #[.int .u64 m, .int .u64 a, .int .u64 b] w fun e w' => e = .returned (.int .u64 ((Obol.mulM m.toNat a.toNat b.toNat : Nat) : Int)) ∧ ∃ n, w' = w.drewN n := by
  obtain ⟨M, hM⟩ := Int.eq_ofNat_of_zero_le (show 0 ≤ m by omega)
  obtain ⟨A, hA⟩ := Int.eq_ofNat_of_zero_le ha
  obtain ⟨B, hB⟩ := Int.eq_ofNat_of_zero_le hb
  have hm0 : 0 < M := by omega
  have la := Nat.mod_lt A hm0
  have lb := Nat.mod_lt B hm0
  have hlt : A % M * (B % M) < M * M := Nat.mul_lt_mul'' la lb
  have hmm : M * M ≤ M * 18446744073709551616 := Nat.mul_le_mul_left _ (by omega)
  have hhi : A % M * (B % M) / 18446744073709551616 < M := by rw [Nat.div_lt_iff_lt_mul (by omega)]; omega
  have c1 := fun w => mul64_any (A % M) (B % M) (by omega) (by omega) w
  have c2 := fun w => div64_ok (A % M * (B % M) / 18446744073709551616) (A % M * (B % M) % 18446744073709551616) M w hhi (by omega) (Nat.mod_lt _ (by omega))
  rw [show A % M * (B % M) / 18446744073709551616 * 18446744073709551616 + A % M * (B % M) % 18446744073709551616 = A % M * (B % M) from by rw [Nat.mul_comm]; exact Nat.div_add_mod _ _, ← Nat.mul_mod] at c2
  have hr : ((A * B % M : Nat) : Int) = ((Obol.mulM m.toNat a.toNat b.toNat : Nat) : Int) := by rw [hM, hA, hB]; rfl
  rw [hr] at c2
  generalize hH : A % M * (B % M) / 18446744073709551616 = H at c1 c2
  generalize hL : A % M * (B % M) % 18446744073709551616 = L at c1 c2
  rw [← hM] at c2
  have e1 : a % m = ((A % M : Nat) : Int) := by rw [hA, hM]; rfl
  have e2 : b % m = ((B % M : Nat) : Int) := by rw [hB, hM]; rfl
  generalize ((A % M : Nat) : Int) = X at c1 e1
  generalize ((B % M : Nat) : Int) = Y at c1 e2
  have e3 : a.tmod m = X := by rw [Int.tmod_eq_emod_of_nonneg ha]; exact e1
  have e4 : b.tmod m = Y := by rw [Int.tmod_eq_emod_of_nonneg hb]; exact e2
  have C1 := Lib.hid c1
  have C2 := Lib.hid c2
  have HN := Lib.hid (fun w => no_ok m h0 h1 w)
  have hz : ¬ m = 0 := by omega
  have hz2 : (m == 0) = false := by rw [beq_eq_false_iff_ne]; omega
  clear c1 c2 hlt hmm hhi la lb hM hA hB hm0 hH hL
  go_enter Tryd.func44, Tryd.ntmps44
  go_wp2_with (go_at_call 43; refine (HN.out _).mono ?_; rintro e w' ⟨rfl, rfl⟩)
  go_quiet ((go_at_call 48; exact q_same (C1.out _)))
  go_wp2_with (go_at_call 49; refine (C2.out _).mono ?_; rintro e w' ⟨q, rfl, n, rfl⟩)
  go_ret
  exact ⟨rfl, _, rfl⟩

end Go.Proofs.YtcdfpceagobicaaDoor
