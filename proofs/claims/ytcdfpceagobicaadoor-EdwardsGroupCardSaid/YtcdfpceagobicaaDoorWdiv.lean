import Derived.Test.YtcdfpceagobicaaDoorWbits
import Derived.Deep.CutBlock
import Derived.Deep.LoopGhost
import Derived.Deep.DeepCutAuto
/- Walks: math/bits: Div64. -/
namespace Go.Proofs.YtcdfpceagobicaaDoor
open Go.RowKit

theorem join64 (a b s : Nat) (ha : a % 2 ^ s = 0) (hb : b < 2 ^ s) (h : a + b < 18446744073709551616) : bits .or .u64 (a : Int) (b : Int) = ((a + b : Nat) : Int) := by
  rw [u64_or_nat a b (by omega) (by omega), nat_join s a b ha hb]
theorem wrap3 (a b c r : Int) (h : a + b - c = r) (h0 : 0 ≤ r) (h1 : r < 18446744073709551616) : IntKind.u64.wrap (IntKind.u64.wrap (IntKind.u64.wrap a + b) - IntKind.u64.wrap c) = r := by
  simp only [IntKind.wrap_u64]
  omega

/-- What is shifted, in numbers. -/
theorem shifted {hi lo y s : Nat} (hs : s ≤ 63) (hl : lo < 18446744073709551616) (hy : hi < y) (hY : y * 2 ^ s < 18446744073709551616) :
    ∃ U L : Nat, bits .or .u64 (IntKind.u64.wrap ((hi : Int) * 2 ^ s)) ((lo : Int) / 2 ^ (64 - s)) = (U : Int) ∧ IntKind.u64.wrap ((lo : Int) * 2 ^ s) = (L : Int) ∧ L < 18446744073709551616 ∧ U < y * 2 ^ s ∧
      (hi * 18446744073709551616 + lo) * 2 ^ s = U * 18446744073709551616 + L := by
  have e64 : 2 ^ (64 - s) * 2 ^ s = 18446744073709551616 := by rw [← Nat.pow_add, show 64 - s + s = 64 by omega]
  have hp : 0 < 2 ^ s := Nat.pow_pos (by omega)
  have h2 : lo / 2 ^ (64 - s) < 2 ^ s := by
    rw [Nat.div_lt_iff_lt_mul (Nat.pow_pos (by omega)), Nat.mul_comm, e64]
    exact hl
  have h3 : (hi + 1) * 2 ^ s ≤ y * 2 ^ s := Nat.mul_le_mul_right _ hy
  rw [Nat.succ_mul] at h3
  refine ⟨hi * 2 ^ s + lo / 2 ^ (64 - s), lo * 2 ^ s % 18446744073709551616, ?_, ?_, Nat.mod_lt _ (by omega), by omega, ?_⟩
  · have e1 : (hi : Int) * 2 ^ s = ((hi * 2 ^ s : Nat) : Int) := by rw [Int.natCast_mul, Int.natCast_pow]; rfl
    have e2 : (lo : Int) / 2 ^ (64 - s) = ((lo / 2 ^ (64 - s) : Nat) : Int) := by rw [Int.natCast_ediv, Int.natCast_pow]; rfl
    rw [e1, e2, wrapN _ (by omega)]
    exact join64 _ _ s (Nat.mul_mod_left _ _) h2 (by omega)
  · have e1 : (lo : Int) * 2 ^ s = ((lo * 2 ^ s : Nat) : Int) := by rw [Int.natCast_mul, Int.natCast_pow]; rfl
    rw [e1, wrapM]
  · have e3 : lo * 2 ^ s / 18446744073709551616 = lo / 2 ^ (64 - s) := by
      rw [← e64, Nat.mul_div_mul_right _ _ hp]
    have e4 := Nat.div_add_mod (lo * 2 ^ s) 18446744073709551616
    rw [e3] at e4
    rw [Nat.add_mul, Nat.mul_right_comm]
    generalize hi * 2 ^ s = a at *
    generalize lo / 2 ^ (64 - s) = b at *
    generalize lo * 2 ^ s = c at *
    omega

/-- What holds of a guess q and its rest r. -/
structure Guess (A B D T U Y : Nat) (q r : Int) : Prop where
  q0 : 0 ≤ q
  r0 : 0 ≤ r
  eq : q.toNat * A + r.toNat = U
  le : T ≤ q.toNat
  q1 : q.toNat ≤ 4294967297
  hY : Y = A * 4294967296 + B
  hYp : 0 < Y
  hT : T = (U * 4294967296 + D) / Y
  hB : B < 4294967296
  hD : D < 4294967296

theorem nat_mul_wrap {q : Int} {B : Nat} (h0 : 0 ≤ q) (h1 : q < 4294967296) (hB : B < 4294967296) : IntKind.u64.wrap (q * (B : Int)) = ((q.toNat * B : Nat) : Int) := by
  obtain ⟨n, rfl⟩ := Int.eq_ofNat_of_zero_le h0
  have hle : n * B ≤ 4294967295 * 4294967295 := Nat.mul_le_mul (by omega) (by omega)
  rw [mulN, wrapN _ (by omega), Int.toNat_natCast]
theorem nat_sum_wrap {r : Int} {D : Nat} (h0 : 0 ≤ r) (h1 : r < 4294967296) (hD : D < 4294967296) : IntKind.u64.wrap (4294967296 * r + (D : Int)) = ((4294967296 * r.toNat + D : Nat) : Int) := by
  rw [IntKind.wrap_u64]
  omega

theorem Guess.big {A B D T U Y : Nat} {q r : Int} (h : Guess A B D T U Y q r) (hr : r < 4294967296) (hT : T < 4294967296)
    (hor : 4294967296 ≤ q ∨ (q < 4294967296 ∧ IntKind.u64.wrap (4294967296 * r + (D : Int)) < IntKind.u64.wrap (q * (B : Int)))) : T < q.toNat := by
  rcases hor with h1 | ⟨h1, h2⟩
  · omega
  · rw [nat_mul_wrap h.q0 h1 h.hB, nat_sum_wrap h.r0 hr h.hD] at h2
    rw [h.hT]
    exact Obol.guess_big h.hY h.hYp h.eq (by omega)

theorem Guess.fits {A B D T U Y : Nat} {q r : Int} (h : Guess A B D T U Y q r) (hr : r < 4294967296)
    (h1 : q < 4294967296) (h2 : IntKind.u64.wrap (q * (B : Int)) ≤ IntKind.u64.wrap (4294967296 * r + (D : Int))) : q = (T : Int) := by
  rw [nat_mul_wrap h.q0 h1 h.hB, nat_sum_wrap h.r0 hr h.hD] at h2
  have := Obol.guess_fits h.hY h.hYp h.eq (show q.toNat * B ≤ 4294967296 * r.toNat + D by omega)
  rw [← h.hT] at this
  have := h.le
  have := h.q0
  omega

theorem Guess.next {A B D T U Y : Nat} {q r : Int} (h : Guess A B D T U Y q r) (hlt : T < q.toNat) : Guess A B D T U Y (q - 1) (r + (A : Int)) := by
  have h0 := h.q0
  have h1 := h.r0
  have h2 := h.q1
  have h3 := h.eq
  have e1 : (q - 1).toNat + 1 = q.toNat := by omega
  have e2 : (r + (A : Int)).toNat = r.toNat + A := by omega
  refine ⟨by omega, by omega, ?_, by omega, by omega, h.hY, h.hYp, h.hT, h.hB, h.hD⟩
  rw [← e1, Nat.succ_mul] at h3
  omega

theorem Guess.over {A B D T U Y : Nat} {q r : Int} (h : Guess A B D T U Y q r) (hr : 4294967296 ≤ r) (hq : q.toNat ≤ 4294967296) : q = (T : Int) := by
  have := Obol.guess_fits h.hY h.hYp h.eq (Obol.guess_over (d := D) h.hB hq (by omega))
  rw [← h.hT] at this
  have := h.le
  have := h.q0
  omega

theorem wrap_pred {q : Int} (h0 : 1 ≤ q) (h1 : q ≤ 4294967297) : IntKind.u64.wrap (q - 1) = q - 1 := by rw [IntKind.wrap_u64]; omega

set_option maxRecDepth 100000 in
set_option maxHeartbeats 2000000 in
theorem div64_any (hi lo y s Y : Nat) (w : World) (h0 : 1 ≤ hi) (hy : hi < y) (hyl : y < 18446744073709551616) (hl : lo < 18446744073709551616) (hs : s ≤ 63) (Hs : Hid (64 - Lib.bitLen y = s))
    (HY : Hid (Y = y * 2 ^ s)) (hY1 : 9223372036854775808 ≤ Y) (hY2 : Y < 18446744073709551616) :
    Calls Tryd.prog 49 #[.int .u64 (hi : Int), .int .u64 (lo : Int), .int .u64 (y : Int)] w fun e w' =>
      ∃ q : Int, e = .returned (.tuple #[.int .u64 q, .int .u64 (((hi * 18446744073709551616 + lo) % y : Nat) : Int)]) ∧ w = w' := by
  have hz := lz64_any y w hyl
  rw [Hs.out] at hz
  have Hz := Lib.hid hz
  clear hz
  have f1 : ((y : Int) == 0) = false := by rw [beq_eq_false_iff_ne]; omega
  have f2 : (hi : Int) < (y : Int) := by omega
  have f3 : ((hi : Int) == 0) = false := by rw [beq_eq_false_iff_ne]; omega
  obtain ⟨U, L, r4, r5, hL, hU, heq⟩ := shifted hs hl hy (HY.out ▸ hY2)
  have Heq := Lib.hid heq
  clear heq
  rw [← HY.out] at hU
  have r1 : IntKind.u64.wrap ((y : Int) * 2 ^ s) = (Y : Int) := by
    have e1 : (y : Int) * 2 ^ s = ((y * 2 ^ s : Nat) : Int) := by rw [Int.natCast_mul, Int.natCast_pow]; rfl
    rw [e1, ← HY.out, wrapN _ hY2]
  obtain ⟨A, HA⟩ : ∃ A : Nat, Hid (A = Y / 4294967296) := ⟨_, rfl⟩
  obtain ⟨B0, HB⟩ : ∃ B : Nat, Hid (B = Y % 4294967296) := ⟨_, rfl⟩
  obtain ⟨D1, HD1⟩ : ∃ B : Nat, Hid (B = L / 4294967296) := ⟨_, rfl⟩
  obtain ⟨D0, HD0⟩ : ∃ B : Nat, Hid (B = L % 4294967296) := ⟨_, rfl⟩
  have a1 : 2147483648 ≤ A ∧ A < 4294967296 := by have := HA.out; omega
  have a2 : B0 < 4294967296 := by have := HB.out; omega
  have a3 : D1 < 4294967296 := by have := HD1.out; omega
  have a4 : D0 < 4294967296 := by have := HD0.out; omega
  have HYY : Hid (Y = A * 4294967296 + B0) := by have h1 := HA.out; have h2 := HB.out; show Y = _; omega
  have HL2 : Hid (L = D1 * 4294967296 + D0) := by have h1 := HD1.out; have h2 := HD0.out; show L = _; omega
  obtain ⟨Q, HQ⟩ : ∃ B : Nat, Hid (B = U / A) := ⟨_, rfl⟩
  obtain ⟨RH, HR⟩ : ∃ B : Nat, Hid (B = U % A) := ⟨_, rfl⟩
  have HQR : Hid (Q * A + RH = U) := by have := Nat.div_add_mod U A; rw [Nat.mul_comm, ← HQ.out, ← HR.out] at this; exact this
  have q1 : Q ≤ 4294967297 := by rw [HQ.out]; exact Obol.guess_near HYY.out a2 (by omega) hU
  have q2 : RH < 4294967296 := by have := Nat.mod_lt U (show 0 < A by omega); rw [← HR.out] at this; omega
  have hYp : 0 < Y := by omega
  obtain ⟨T1, HT1⟩ : ∃ B : Nat, Hid (B = (U * 4294967296 + D1) / Y) := ⟨_, rfl⟩
  have t1 : T1 < 4294967296 := by rw [HT1.out]; exact Obol.digit_lt a3 hU
  have t2 : T1 ≤ Q := by rw [HT1.out, HQ.out]; exact Obol.guess_le HYY.out (by omega) a3
  -- the walk's numbers, as whole numbers with names of their own
  obtain ⟨Ai, hA0⟩ : ∃ z : Int, z = (A : Int) := ⟨_, rfl⟩
  obtain ⟨Bi, hB0⟩ : ∃ z : Int, z = (B0 : Int) := ⟨_, rfl⟩
  obtain ⟨D1i, hD10⟩ : ∃ z : Int, z = (D1 : Int) := ⟨_, rfl⟩
  obtain ⟨D0i, hD00⟩ : ∃ z : Int, z = (D0 : Int) := ⟨_, rfl⟩
  obtain ⟨Ui, hU0⟩ : ∃ z : Int, z = (U : Int) := ⟨_, rfl⟩
  obtain ⟨Yi, hY0⟩ : ∃ z : Int, z = (Y : Int) := ⟨_, rfl⟩
  obtain ⟨Li, hL0⟩ : ∃ z : Int, z = (L : Int) := ⟨_, rfl⟩
  obtain ⟨Qi, hQ0⟩ : ∃ z : Int, z = (Q : Int) := ⟨_, rfl⟩
  obtain ⟨Ri, hR0⟩ : ∃ z : Int, z = (RH : Int) := ⟨_, rfl⟩
  -- the second digit's
  obtain ⟨V, HV⟩ : ∃ B : Nat, Hid (B = (U * 4294967296 + D1) % Y) := ⟨_, rfl⟩
  have v1 : V < Y := by rw [HV.out]; exact Nat.mod_lt _ hYp
  obtain ⟨Q2, HQ2⟩ : ∃ B : Nat, Hid (B = V / A) := ⟨_, rfl⟩
  obtain ⟨R2, HR2⟩ : ∃ B : Nat, Hid (B = V % A) := ⟨_, rfl⟩
  have HQR2 : Hid (Q2 * A + R2 = V) := by have := Nat.div_add_mod V A; rw [Nat.mul_comm, ← HQ2.out, ← HR2.out] at this; exact this
  have q3 : Q2 ≤ 4294967297 := by rw [HQ2.out]; exact Obol.guess_near HYY.out a2 (by omega) v1
  have q4 : R2 < 4294967296 := by have := Nat.mod_lt V (show 0 < A by omega); rw [← HR2.out] at this; omega
  obtain ⟨T0, HT0⟩ : ∃ B : Nat, Hid (B = (V * 4294967296 + D0) / Y) := ⟨_, rfl⟩
  have t3 : T0 < 4294967296 := by rw [HT0.out]; exact Obol.digit_lt a4 v1
  have t4 : T0 ≤ Q2 := by rw [HT0.out, HQ2.out]; exact Obol.guess_le HYY.out (by omega) a4
  obtain ⟨Z, HZ⟩ : ∃ B : Nat, Hid (B = (V * 4294967296 + D0) % Y) := ⟨_, rfl⟩
  have z1 : Z < Y := by rw [HZ.out]; exact Nat.mod_lt _ hYp
  obtain ⟨T1i, hT10⟩ : ∃ z : Int, z = (T1 : Int) := ⟨_, rfl⟩
  obtain ⟨T0i, hT00⟩ : ∃ z : Int, z = (T0 : Int) := ⟨_, rfl⟩
  obtain ⟨Vi, hV0⟩ : ∃ z : Int, z = (V : Int) := ⟨_, rfl⟩
  obtain ⟨Q2i, hQ20⟩ : ∃ z : Int, z = (Q2 : Int) := ⟨_, rfl⟩
  obtain ⟨R2i, hR20⟩ : ∃ z : Int, z = (R2 : Int) := ⟨_, rfl⟩
  obtain ⟨Zi, hZ0⟩ : ∃ z : Int, z = (Z : Int) := ⟨_, rfl⟩
  rw [← hU0] at r4
  rw [← hL0] at r5
  rw [← hY0] at r1
  have r2 : Yi / 4294967296 = Ai := by rw [hY0, hA0, HA.out]; omega
  have r3 : bits .and .u64 Yi 4294967295 = Bi := by rw [hY0, hB0, maskN Y hY2, HB.out]
  have r6 : Li / 4294967296 = D1i := by rw [hL0, hD10, HD1.out]; omega
  have r7 : bits .and .u64 Li 4294967295 = D0i := by rw [hL0, hD00, maskN L hL, HD0.out]
  have r8 : IntKind.u64.wrap (Ui / Ai) = Qi := by
    rw [hU0, hA0, hQ0, ← Int.natCast_ediv, ← HQ.out, wrapN _ (by omega)]
  have r8' : IntKind.u64.wrap (Ui.tdiv Ai) = Qi := by
    rw [Int.tdiv_eq_ediv_of_nonneg (by omega)]; exact r8
  have r9 : IntKind.u64.wrap (Ui - IntKind.u64.wrap (Qi * Ai)) = Ri := by
    have := HQR.out
    have hle : Q * A < 18446744073709551616 := by omega
    rw [hU0, hQ0, hA0, hR0, mulN, wrapN _ hle, show (U : Int) - ((Q * A : Nat) : Int) = (RH : Int) by omega, wrapN _ (by omega)]
  have r10 : IntKind.u64.wrap (IntKind.u64.wrap (IntKind.u64.wrap (Ui * 4294967296) + D1i) - IntKind.u64.wrap (T1i * Yi)) = Vi := by
    have h1 := Nat.div_add_mod (U * 4294967296 + D1) Y
    rw [← HT1.out, ← HV.out, Nat.mul_comm] at h1
    refine wrap3 _ _ _ _ ?_ (by omega) (by omega)
    rw [hT10, hY0, mulN, hU0, hD10, hV0]
    omega
  have r11 : IntKind.u64.wrap (Vi / Ai) = Q2i := by
    rw [hV0, hA0, hQ20, ← Int.natCast_ediv, ← HQ2.out, wrapN _ (by omega)]
  have r11' : IntKind.u64.wrap (Vi.tdiv Ai) = Q2i := by
    rw [Int.tdiv_eq_ediv_of_nonneg (by omega)]; exact r11
  have r12 : IntKind.u64.wrap (Vi - IntKind.u64.wrap (Q2i * Ai)) = R2i := by
    have := HQR2.out
    have hle : Q2 * A < 18446744073709551616 := by omega
    rw [hV0, hQ20, hA0, hR20, mulN, wrapN _ hle, show (V : Int) - ((Q2 * A : Nat) : Int) = (R2 : Int) by omega, wrapN _ (by omega)]
  have r13 : IntKind.u64.wrap (IntKind.u64.wrap (IntKind.u64.wrap (Vi * 4294967296) + D0i) - IntKind.u64.wrap (T0i * Yi)) = Zi := by
    have h1 := Nat.div_add_mod (V * 4294967296 + D0) Y
    rw [← HT0.out, ← HZ.out, Nat.mul_comm] at h1
    refine wrap3 _ _ _ _ ?_ (by omega) (by omega)
    rw [hT00, hY0, mulN, hV0, hD00, hZ0]
    omega
  have r14 : Hid (Zi / 2 ^ s = (((hi * 18446744073709551616 + lo) % y : Nat) : Int)) := by
    have h1 : Z = ((hi * 18446744073709551616 + lo) % y) * 2 ^ s := by
      have h2 : (U * 4294967296 + D1) * 4294967296 + D0 = U * 18446744073709551616 + L := by rw [HL2.out]; omega
      rw [HZ.out, HV.out, Obol.two_digits, h2, ← Nat.mul_mod_mul_right, Heq.out, ← HY.out]
    show _ = _
    rw [hZ0, h1, Int.natCast_mul, Int.natCast_pow]
    exact Int.mul_ediv_cancel _ (by have : (2 : Int) ^ s ≠ 0 := Int.pow_ne_zero (by omega); exact this)
  have i5 : 0 ≤ Vi := by omega
  have i1 : 0 ≤ Ai := by omega
  have i2 : 1 ≤ Ai := by omega
  have i3 : Ai < 4294967296 := by omega
  have i4 : 0 ≤ Ui := by omega
  have B := Lib.hid (And.intro a1 (And.intro a2 (And.intro a3 (And.intro a4 (And.intro t1 (And.intro t2 (And.intro q1 (And.intro q2 (And.intro hU (And.intro hL (And.intro hY1 (And.intro hY2 (And.intro hYp (And.intro q3 (And.intro q4 (And.intro t3 t4))))))))))))))))
  have E := Lib.hid (And.intro hA0 (And.intro hB0 (And.intro hD10 (And.intro hD00 (And.intro hU0 (And.intro hY0 (And.intro hL0 (And.intro hQ0 (And.intro hR0 (And.intro hT10 (And.intro hT00 (And.intro hV0 (And.intro hQ20 hR20)))))))))))))
  have F := Lib.hid (And.intro h0 (And.intro hy (And.intro hyl (And.intro hl hs))))
  clear a1 a2 a3 a4 t1 t2 q1 q2 hU hL hY1 hY2 hYp hA0 hB0 hD10 hD00 hU0 hY0 hL0 hQ0 hR0 h0 hyl hl v1 q3 q4 t3 t4 z1 hT10 hT00 hV0 hQ20 hR20 hZ0
  go_enter Tryd.func49, Tryd.ntmps49
  go_upto_block 0 with (go_at_call 50; refine Hz.out.mono ?_; rintro e w' ⟨rfl, rfl⟩)
  go_cut [15] (fun q wc => q = .int .u64 T1i ∧ w = wc)
  case first =>
    go_wp2_with fail
    clear r1 r2 r3 r4 r5 r6 r7 r8 r8' r9 r10 r11 r11' r12 r13 r14 f1 f2 f3
    have G0 : Guess A B0 D1 T1 U Y Qi Ri := by
      have e := E.out
      have b := B.out
      refine ⟨by omega, by omega, ?_, by omega, by omega, HYY.out, by omega, HT1.out, by omega, by omega⟩
      rw [e.2.2.2.2.2.2.2.1, e.2.2.2.2.2.2.2.2.1]
      exact HQR.out
    go_loop [15, 16] (fun q r => ∃ qn rn : Int, q = .int .u64 qn ∧ r = .int .u64 rn ∧ Guess A B0 D1 T1 U Y qn rn ∧ Hid (rn < 4294967296)) (fun q _ => (intOf q).toNat)
    case atStart => exact ⟨Qi, Ri, rfl, rfl, G0, by have e := E.out; have b := B.out; show Ri < _; omega⟩
    case round =>
      obtain ⟨qn, rn, rfl, rfl, Hq, Hr⟩ := hrel
      rename w = w => hww
      clear hww
      have j1 : 0 ≤ qn := Hq.q0
      have j2 : 0 ≤ rn := Hq.r0
      have j3 : rn < 4294967296 := Hr.out
      have j4 : qn ≤ 4294967297 := by have := Hq.q1; omega
      go_wp2_with fail
      · have k1 : qn < 4294967296 := by assumption
        have k2 : 4294967296 ≤ qn ∨ IntKind.u64.wrap (4294967296 * rn + D1i) < IntKind.u64.wrap (qn * Bi) := by assumption
        have k3 : 4294967296 ≤ rn + Ai := by assumption
        have e := E.out
        have b := B.out
        rw [e.2.1, e.2.2.1] at k2
        have hb := Hq.big Hr.out (by omega) (k2.imp_right fun h => ⟨k1, h⟩)
        have hn := (Hq.next hb).over (by omega) (by omega)
        go_meet
        exact ⟨by rw [wrap_pred (by omega) j4, hn, e.2.2.2.2.2.2.2.2.2.1], rfl⟩
      · have k1 : qn < 4294967296 := by assumption
        have k2 : 4294967296 ≤ qn ∨ IntKind.u64.wrap (4294967296 * rn + D1i) < IntKind.u64.wrap (qn * Bi) := by assumption
        have k3 : rn + Ai < 4294967296 := by assumption
        have e := E.out
        have b := B.out
        rw [e.2.1, e.2.2.1] at k2
        have hb := Hq.big Hr.out (by omega) (k2.imp_right fun h => ⟨k1, h⟩)
        go_round
        case rel => exact ⟨qn - 1, rn + Ai, by rw [wrap_pred (by omega) j4], rfl, by rw [e.1]; exact Hq.next hb, k3⟩
        case measure => simp only [intOf]; rw [wrap_pred (by omega) j4]; omega
      · have k2 : qn < 4294967296 ∧ IntKind.u64.wrap (qn * Bi) ≤ IntKind.u64.wrap (4294967296 * rn + D1i) := by assumption
        have e := E.out
        rw [e.2.1, e.2.2.1] at k2
        have hn := Hq.fits Hr.out k2.1 k2.2
        go_meet
        exact ⟨by rw [hn, e.2.2.2.2.2.2.2.2.2.1], rfl⟩
      · have k1 : 4294967296 ≤ qn := by assumption
        have k3 : 4294967296 ≤ rn + Ai := by assumption
        have e := E.out
        have b := B.out
        have hb := Hq.big Hr.out (by omega) (.inl k1)
        have hn := (Hq.next hb).over (by omega) (by omega)
        go_meet
        exact ⟨by rw [hn, e.2.2.2.2.2.2.2.2.2.1], rfl⟩
      · have k1 : ¬ qn < 4294967296 := by assumption
        have k3 : rn + Ai < 4294967296 := by assumption
        have e := E.out
        have b := B.out
        have hb := Hq.big Hr.out (by omega) (.inl (by omega))
        go_round
        case rel => exact ⟨qn - 1, rn + Ai, rfl, rfl, by rw [e.1]; exact Hq.next hb, k3⟩
        case measure => simp only [intOf]; omega
  case rest =>
    obtain ⟨rfl, rfl⟩ := hcut
    go_upto_block 2 with (fail)
    go_cut [18] (fun q wc => q = .int .u64 T0i ∧ w = wc)
    case first =>
      go_wp2_with fail
      clear r1 r2 r3 r4 r5 r6 r7 r8 r8' r9 r10 r11 r11' r12 r13 r14 f1 f2 f3
      have G0 : Guess A B0 D0 T0 V Y Q2i R2i := by
        have e := E.out
        have b := B.out
        refine ⟨by omega, by omega, ?_, by omega, by omega, HYY.out, by omega, HT0.out, by omega, by omega⟩
        rw [e.2.2.2.2.2.2.2.2.2.2.2.2.1, e.2.2.2.2.2.2.2.2.2.2.2.2.2]
        exact HQR2.out
      go_loop [18, 16] (fun q r => ∃ qn rn : Int, q = .int .u64 qn ∧ r = .int .u64 rn ∧ Guess A B0 D0 T0 V Y qn rn ∧ Hid (rn < 4294967296)) (fun q _ => (intOf q).toNat)
      case atStart => exact ⟨Q2i, R2i, rfl, rfl, G0, by have e := E.out; have b := B.out; show R2i < _; omega⟩
      case round =>
        obtain ⟨qn, rn, rfl, rfl, Hq, Hr⟩ := hrel
        rename w = w => hww
        clear hww
        have j1 : 0 ≤ qn := Hq.q0
        have j2 : 0 ≤ rn := Hq.r0
        have j3 : rn < 4294967296 := Hr.out
        have j4 : qn ≤ 4294967297 := by have := Hq.q1; omega
        go_wp2_with fail
        · have k1 : qn < 4294967296 := by assumption
          have k2 : 4294967296 ≤ qn ∨ IntKind.u64.wrap (4294967296 * rn + D0i) < IntKind.u64.wrap (qn * Bi) := by assumption
          have k3 : 4294967296 ≤ rn + Ai := by assumption
          have e := E.out
          have b := B.out
          rw [e.2.1, e.2.2.2.1] at k2
          have hb := Hq.big Hr.out (by omega) (k2.imp_right fun h => ⟨k1, h⟩)
          have hn := (Hq.next hb).over (by omega) (by omega)
          go_meet
          exact ⟨by rw [wrap_pred (by omega) j4, hn, e.2.2.2.2.2.2.2.2.2.2.1], rfl⟩
        · have k1 : qn < 4294967296 := by assumption
          have k2 : 4294967296 ≤ qn ∨ IntKind.u64.wrap (4294967296 * rn + D0i) < IntKind.u64.wrap (qn * Bi) := by assumption
          have k3 : rn + Ai < 4294967296 := by assumption
          have e := E.out
          have b := B.out
          rw [e.2.1, e.2.2.2.1] at k2
          have hb := Hq.big Hr.out (by omega) (k2.imp_right fun h => ⟨k1, h⟩)
          go_round
          case rel => exact ⟨qn - 1, rn + Ai, by rw [wrap_pred (by omega) j4], rfl, by rw [e.1]; exact Hq.next hb, k3⟩
          case measure => simp only [intOf]; rw [wrap_pred (by omega) j4]; omega
        · have k2 : qn < 4294967296 ∧ IntKind.u64.wrap (qn * Bi) ≤ IntKind.u64.wrap (4294967296 * rn + D0i) := by assumption
          have e := E.out
          rw [e.2.1, e.2.2.2.1] at k2
          have hn := Hq.fits Hr.out k2.1 k2.2
          go_meet
          exact ⟨by rw [hn, e.2.2.2.2.2.2.2.2.2.2.1], rfl⟩
        · have k1 : 4294967296 ≤ qn := by assumption
          have k3 : 4294967296 ≤ rn + Ai := by assumption
          have e := E.out
          have b := B.out
          have hb := Hq.big Hr.out (by omega) (.inl k1)
          have hn := (Hq.next hb).over (by omega) (by omega)
          go_meet
          exact ⟨by rw [hn, e.2.2.2.2.2.2.2.2.2.2.1], rfl⟩
        · have k1 : ¬ qn < 4294967296 := by assumption
          have k3 : rn + Ai < 4294967296 := by assumption
          have e := E.out
          have b := B.out
          have hb := Hq.big Hr.out (by omega) (.inl (by omega))
          go_round
          case rel => exact ⟨qn - 1, rn + Ai, rfl, rfl, by rw [e.1]; exact Hq.next hb, k3⟩
          case measure => simp only [intOf]; omega
    case rest =>
      obtain ⟨rfl, rfl⟩ := hcut
      go_wp2_with fail
      go_ret2
      rw [r14.out]
      exact ⟨_, rfl, rfl⟩

theorem div64_low (lo y : Nat) (w : World) (hy : 0 < y) :
    Calls Tryd.prog 49 #[.int .u64 0, .int .u64 (lo : Int), .int .u64 (y : Int)] w fun e w' =>
      ∃ q : Int, e = .returned (.tuple #[.int .u64 q, .int .u64 ((lo % y : Nat) : Int)]) ∧ ∃ n, w' = w.drewN n := by
  have f1 : ((y : Int) == 0) = false := by rw [beq_eq_false_iff_ne]; omega
  have f2 : (0 : Int) < (y : Int) := by omega
  go_enter Tryd.func49, Tryd.ntmps49
  go_wp2_with fail
  go_quiet (fail)
  go_wp2_with fail
  go_ret2
  exact ⟨_, rfl, _, rfl⟩

theorem div64_ok (hi lo y : Nat) (w : World) (hy : hi < y) (hyl : y < 18446744073709551616) (hl : lo < 18446744073709551616) :
    Calls Tryd.prog 49 #[.int .u64 (hi : Int), .int .u64 (lo : Int), .int .u64 (y : Int)] w fun e w' =>
      ∃ q : Int, e = .returned (.tuple #[.int .u64 q, .int .u64 (((hi * 18446744073709551616 + lo) % y : Nat) : Int)]) ∧ ∃ n, w' = w.drewN n := by
  by_cases h0 : hi = 0
  · subst h0
    rw [Nat.zero_mul, Nat.zero_add]
    exact div64_low lo y w hy
  · obtain ⟨b1, b2, b3⟩ := Lib.bitLenAux_bounds 64 y (by simpa using hyl) (by omega)
    have e1 : Lib.bitLen y = Lib.bitLenAux 64 y := rfl
    rw [← e1] at b1 b2 b3
    have b4 := bitLen_le64 y hyl
    have p1 : 2 ^ (Lib.bitLen y - 1) * 2 ^ (64 - Lib.bitLen y) = 9223372036854775808 := by
      rw [← Nat.pow_add, show Lib.bitLen y - 1 + (64 - Lib.bitLen y) = 63 by omega]
    have p2 : 2 ^ Lib.bitLen y * 2 ^ (64 - Lib.bitLen y) = 18446744073709551616 := by
      rw [← Nat.pow_add, show Lib.bitLen y + (64 - Lib.bitLen y) = 64 by omega]
    have q1 : 9223372036854775808 ≤ y * 2 ^ (64 - Lib.bitLen y) := by rw [← p1]; exact Nat.mul_le_mul_right _ b2
    have q2 : y * 2 ^ (64 - Lib.bitLen y) < 18446744073709551616 := by rw [← p2]; exact Nat.mul_lt_mul_of_pos_right b3 (Nat.pow_pos (by omega))
    refine (div64_any hi lo y (64 - Lib.bitLen y) (y * 2 ^ (64 - Lib.bitLen y)) w (by omega) hy hyl hl (by omega) (Lib.hid rfl) (Lib.hid rfl) q1 q2).mono ?_
    rintro e w' ⟨q, he, rfl⟩
    exact ⟨q, he, 0, rfl⟩

end Go.Proofs.YtcdfpceagobicaaDoor
