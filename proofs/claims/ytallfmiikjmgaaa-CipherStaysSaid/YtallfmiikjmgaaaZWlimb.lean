import Derived.Test.YtallfmiikjmgaaaZWblk
set_option linter.unusedVariables false
set_option linter.unusedSimpArgs false
/- Walks: package cipher: numbers of 17 bytes in limbs of 26 bits. -/
namespace Obol
/-- So many bytes from one on, the lowest first. -/
def partN (B : List Nat) (q : Nat) : Nat → Nat
  | 0 => 0
  | k + 1 => partN B q k + B.getD (q + k) 0 * 256 ^ k
def limbN (B : List Nat) (at' : Nat) : Nat := partN B (at' / 8) 4 / 2 ^ (at' % 8) % 67108864
end Obol
namespace Go.Proofs.Ytallfmiikjmgaaa
open Go.RowKit

theorem or_up (k : Nat) (hk : k ≤ 24) {p c : Int} (p0 : 0 ≤ p) (p1 : p < 2 ^ k) (c0 : 0 ≤ c) (c1 : c ≤ 255) : bits .or .u64 p (c * 2 ^ k) = p + c * 2 ^ k := by
  obtain ⟨P, rfl⟩ := Int.eq_ofNat_of_zero_le p0
  obtain ⟨C, rfl⟩ := Int.eq_ofNat_of_zero_le c0
  have hP : P < 2 ^ k := by
    have e : ((2 ^ k : Nat) : Int) = 2 ^ k := by rw [Int.natCast_pow]; rfl
    omega
  have hk2 : 2 ^ k ≤ 2 ^ 24 := Nat.pow_le_pow_right (by decide) hk
  have hC : C * 2 ^ k ≤ 255 * 2 ^ 24 := Nat.mul_le_mul (by omega) hk2
  have e2 : ((C : Int) * 2 ^ k) = ((C * 2 ^ k : Nat) : Int) := by rw [Int.natCast_mul, Int.natCast_pow]; rfl
  have h := Nat.two_pow_add_eq_or_of_lt hP C
  rw [e2, u64_or_nat _ _ (by omega) (by omega), Nat.or_comm, Nat.mul_comm C, ← h]
  omega
theorem and_26 {n : Int} (h0 : 0 ≤ n) (h1 : n ≤ 18446744073709551615) : bits .and .u64 n 67108863 = n % 67108864 := by
  obtain ⟨N, rfl⟩ := Int.eq_ofNat_of_zero_le h0
  have e : (67108863 : Int) = ((2 ^ 26 - 1 : Nat) : Int) := by decide
  rw [e, u64_and_nat _ _ (by omega) (by decide), Nat.and_two_pow_sub_one_eq_mod]
  omega

set_option maxRecDepth 8000 in
set_option maxHeartbeats 8000000 in
theorem qLimb (b : Nat) (B : List Nat) (HB0 : B8 17 B) (t Q : Int) (hs0 : t = 8 * Q ∨ t = 8 * Q + 2 ∨ t = 8 * Q + 4 ∨ t = 8 * Q + 6) (q0 : 0 ≤ Q) (q1 : Q ≤ 13) (w : World) (hR : Row w b (u8s B) 66) :
    Calls Try.prog 74 #[.pointer (some ⟨b, 0, none⟩), .int .i64 t] w fun e w' => e = .returned (.int .u64 ((Obol.limbN B t.toNat : Nat) : Int)) ∧ ∃ n, w' = w.drewN n := by
  have HB := Lib.hid HB0
  have R := Lib.hid hR
  have hq : t.tdiv 8 = Q := by rw [Int.tdiv_eq_ediv_of_nonneg (by omega)]; omega
  have hwt : IntKind.i64.wrap (t + 25) = t + 25 := wrap_small (by omega) (by omega)
  have hq2 : (t + 25).tdiv 8 = Q + 3 := by rw [Int.tdiv_eq_ediv_of_nonneg (by omega)]; omega
  have t0 : 0 ≤ t := by omega
  have hB := HB0.lt
  have hv0 := hB (Q.toNat + 0)
  have hv1 := hB (Q.toNat + 1)
  have hv2 := hB (Q.toNat + 2)
  have hv3 := hB (Q.toNat + 3)
  obtain ⟨a0, e0⟩ : ∃ a : Int, ((B.getD (Q.toNat + 0) 0 : Nat) : Int) = a := ⟨_, rfl⟩
  obtain ⟨a1, e1⟩ : ∃ a : Int, ((B.getD (Q.toNat + 1) 0 : Nat) : Int) = a := ⟨_, rfl⟩
  obtain ⟨a2, e2⟩ : ∃ a : Int, ((B.getD (Q.toNat + 2) 0 : Nat) : Int) = a := ⟨_, rfl⟩
  obtain ⟨a3, e3⟩ : ∃ a : Int, ((B.getD (Q.toNat + 3) 0 : Nat) : Int) = a := ⟨_, rfl⟩
  have hL : Hid (((Obol.limbN B t.toNat : Nat) : Int) = (a0 + a1 * 256 + a2 * 65536 + a3 * 16777216) / 2 ^ (t.toNat % 8) % 67108864) := Lib.hid (by
    have h1 : Obol.partN B Q.toNat 4 = 0 + B.getD (Q.toNat + 0) 0 * 1 + B.getD (Q.toNat + 1) 0 * 256 + B.getD (Q.toNat + 2) 0 * 65536 + B.getD (Q.toNat + 3) 0 * 16777216 := rfl
    have h2 : a0 + a1 * 256 + a2 * 65536 + a3 * 16777216 = ((Obol.partN B Q.toNat 4 : Nat) : Int) := by rw [h1, ← e0, ← e1, ← e2, ← e3]; omega
    rw [h2]
    unfold Obol.limbN
    rw [show t.toNat / 8 = Q.toNat by omega]
    rw [Int.natCast_emod, Int.natCast_ediv, Int.natCast_pow]
    rfl)
  have c0 := R.out.cell Q.toNat (v := .int .u8 a0) ((u8s_get B Q.toNat (by rw [HB0.len]; omega)).trans (by rw [← e0]; rfl))
  have c1 := R.out.cell (Q + 1).toNat (v := .int .u8 a1) ((u8s_get B (Q + 1).toNat (by rw [HB0.len]; omega)).trans (by rw [← e1, show (Q + 1).toNat = Q.toNat + 1 by omega]))
  have c2 := R.out.cell (Q + 2).toNat (v := .int .u8 a2) ((u8s_get B (Q + 2).toNat (by rw [HB0.len]; omega)).trans (by rw [← e2, show (Q + 2).toNat = Q.toNat + 2 by omega]))
  have c3 := R.out.cell (Q + 3).toNat (v := .int .u8 a3) ((u8s_get B (Q + 3).toNat (by rw [HB0.len]; omega)).trans (by rw [← e3, show (Q + 3).toNat = Q.toNat + 3 by omega]))
  have z0 : 0 ≤ a0 ∧ a0 ≤ 255 := by omega
  have z1 : 0 ≤ a1 ∧ a1 ≤ 255 := by omega
  have z2 : 0 ≤ a2 ∧ a2 ≤ 255 := by omega
  have z3 : 0 ≤ a3 ∧ a3 ≤ 255 := by omega
  have k0 : bits .or .u64 0 a0 = a0 := by
    have h := or_up 0 (by decide) (p := 0) (c := a0) (by omega) (by decide) z0.1 z0.2
    simpa using h
  have k1 : bits .or .u64 a0 (a1 * 256) = a0 + a1 * 256 := or_up 8 (by decide) z0.1 (by omega) z1.1 z1.2
  have k2 : bits .or .u64 (a0 + a1 * 256) (a2 * 65536) = a0 + a1 * 256 + a2 * 65536 := or_up 16 (by decide) (by omega) (by omega) z2.1 z2.2
  have k3 : bits .or .u64 (a0 + a1 * 256 + a2 * 65536) (a3 * 16777216) = a0 + a1 * 256 + a2 * 65536 + a3 * 16777216 := or_up 24 (by decide) (by omega) (by omega) z3.1 z3.2
  have d0 : Q - Q = 0 := by omega
  have d1 : Q + 1 - Q = 1 := by omega
  have d2 : Q + 2 - Q = 2 := by omega
  have d3 : Q + 3 - Q = 3 := by omega
  have w1 : IntKind.i64.wrap (Q + 1) = Q + 1 := wrap_small (by omega) (by omega)
  have w2 : IntKind.i64.wrap (Q + 1 + 1) = Q + 2 := (wrap_small (by omega) (by omega)).trans (by omega)
  have w3 : IntKind.i64.wrap (Q + 2 + 1) = Q + 3 := (wrap_small (by omega) (by omega)).trans (by omega)
  have w4 : IntKind.i64.wrap (Q + 3 + 1) = Q + 4 := (wrap_small (by omega) (by omega)).trans (by omega)
  have y0 : Q < 17 := by omega
  have y1 : Q + 1 < 17 := by omega
  have y2 : Q + 2 < 17 := by omega
  have y3 : Q + 3 < 17 := by omega
  have y4 : ¬ Q + 4 ≤ Q + 3 := by omega
  have r0 : 0 ≤ Q + 1 := by omega
  have r2 : 0 ≤ Q + 2 := by omega
  have r3 : 0 ≤ Q + 3 := by omega
  clear e0 e1 e2 e3 hv0 hv1 hv2 hv3 hB HB0 hR
  have hp := Lib.hid (show Q = Q from rfl)
  go_enter Try.func74, Try.ntmps74
  go_wp2_with fail
  go_loopw [5, 6] (fun q1 q2 wr => wr = w ∧ ((q1 = .int .u64 0 ∧ q2 = .int .i64 Q) ∨ (q1 = .int .u64 a0 ∧ q2 = .int .i64 (Q + 1)) ∨ (q1 = .int .u64 (a0 + a1 * 256) ∧ q2 = .int .i64 (Q + 2)) ∨ (q1 = .int .u64 (a0 + a1 * 256 + a2 * 65536) ∧ q2 = .int .i64 (Q + 3)) ∨ (q1 = .int .u64 (a0 + a1 * 256 + a2 * 65536 + a3 * 16777216) ∧ q2 = .int .i64 (Q + 4)))) (fun _ q2 _ => (Q + 4 - intOf q2).toNat)
  case atStart => exact ⟨rfl, Or.inl ⟨rfl, rfl⟩⟩
  case round =>
    obtain ⟨rfl, hrel⟩ := hrel
    rcases hrel with ⟨rfl, rfl⟩ | ⟨rfl, rfl⟩ | ⟨rfl, rfl⟩ | ⟨rfl, rfl⟩ | ⟨rfl, rfl⟩
    · go_wp2_with fail
      go_roundw
      case rel => exact ⟨by trivial, Or.inr (Or.inl ⟨by first | rfl | trivial, by first | rfl | trivial⟩)⟩
      case measure => first | (simp [intOf]; omega) | simp [intOf]
    · go_wp2_with fail
      go_roundw
      case rel => exact ⟨by trivial, Or.inr (Or.inr (Or.inl ⟨by first | rfl | trivial, by first | rfl | trivial⟩))⟩
      case measure => first | (simp [intOf]; omega) | simp [intOf]
    · go_wp2_with fail
      go_roundw
      case rel => exact ⟨by trivial, Or.inr (Or.inr (Or.inr (Or.inl ⟨by first | rfl | trivial, by first | rfl | trivial⟩)))⟩
      case measure => first | (simp [intOf]; omega) | simp [intOf]
    · go_wp2_with fail
      go_roundw
      case rel => exact ⟨by trivial, Or.inr (Or.inr (Or.inr (Or.inr ⟨by first | rfl | trivial, by first | rfl | trivial⟩)))⟩
      case measure => first | (simp [intOf]; omega) | simp [intOf]
    · obtain ⟨n, hn⟩ : ∃ n : Int, a0 + a1 * 256 + a2 * 65536 + a3 * 16777216 = n := ⟨_, rfl⟩
      have n0 : 0 ≤ n := by omega
      have n1 : n ≤ 4294967295 := by omega
      rw [hn] at hL ⊢
      clear hn k3 k2 k1 k0 c0 c1 c2 c3
      have m0 : t.tmod 8 = t - 8 * Q := by rw [Int.tmod_eq_emod_of_nonneg t0]; omega
      obtain ⟨s, hs⟩ : ∃ s : Int, t - 8 * Q = s := ⟨_, rfl⟩
      have hst : t.toNat % 8 = s.toNat := by omega
      rw [hst] at hL
      rw [hs] at m0
      have hs3 : s = 0 ∨ s = 2 ∨ s = 4 ∨ s = 6 := by omega
      clear hs hst hs0
      rcases hs3 with rfl | rfl | rfl | rfl
      · have u0 := and_26 (n := n) n0 (by omega)
        by_cases hQ : Q + 4 < 17 <;> (go_wp2_with fail; go_ret; exact ⟨by rw [hL.out]; simp, 0, rfl⟩)
      · have u0 := and_26 (n := n / 4) (by omega) (by omega)
        by_cases hQ : Q + 4 < 17 <;> (go_wp2_with fail; go_ret; exact ⟨by rw [hL.out]; rfl, 0, rfl⟩)
      · have u0 := and_26 (n := n / 16) (by omega) (by omega)
        by_cases hQ : Q + 4 < 17 <;> (go_wp2_with fail; go_ret; exact ⟨by rw [hL.out]; rfl, 0, rfl⟩)
      · have u0 := and_26 (n := n / 64) (by omega) (by omega)
        by_cases hQ : Q + 4 < 17 <;> (go_wp2_with fail; go_ret; exact ⟨by rw [hL.out]; rfl, 0, rfl⟩)

end Go.Proofs.Ytallfmiikjmgaaa
