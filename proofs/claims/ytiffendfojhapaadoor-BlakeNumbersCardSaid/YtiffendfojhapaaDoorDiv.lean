/- Long division, a digit at a time: what the guess of a digit comes to. Y = yn1 B + yn0; u B + d is divided by Y. -/
namespace Obol

theorem guess_le {B Y u d yn1 yn0 : Nat} (hY : Y = yn1 * B + yn0) (h1 : 0 < yn1) (hd : d < B) : (u * B + d) / Y ≤ u / yn1 := by
  rw [Nat.le_div_iff_mul_le h1]
  have h2 : (u * B + d) / Y * Y ≤ u * B + d := Nat.div_mul_le_self _ _
  generalize (u * B + d) / Y = q at *
  rw [hY, Nat.mul_add, ← Nat.mul_assoc] at h2
  refine Nat.le_of_not_lt fun hlt => ?_
  have h3 : (u + 1) * B ≤ q * yn1 * B := Nat.mul_le_mul_right _ hlt
  rw [Nat.succ_mul] at h3
  have : 0 ≤ q * yn0 := Nat.zero_le _
  omega

theorem guess_big {B Y u d yn1 yn0 q r : Nat} (hY : Y = yn1 * B + yn0) (hYp : 0 < Y) (hq : q * yn1 + r = u) (h : B * r + d < q * yn0) : (u * B + d) / Y < q := by
  rw [Nat.div_lt_iff_lt_mul hYp, hY, Nat.mul_add, ← Nat.mul_assoc, ← hq, Nat.add_mul, Nat.mul_comm r B]
  omega

theorem guess_fits {B Y u d yn1 yn0 q r : Nat} (hY : Y = yn1 * B + yn0) (hYp : 0 < Y) (hq : q * yn1 + r = u) (h : q * yn0 ≤ B * r + d) : q ≤ (u * B + d) / Y := by
  rw [Nat.le_div_iff_mul_le hYp, hY, Nat.mul_add, ← Nat.mul_assoc, ← hq, Nat.add_mul, Nat.mul_comm r B]
  omega

theorem digit_lt {B Y u d : Nat} (hd : d < B) (hu : u < Y) : (u * B + d) / Y < B := by
  rw [Nat.div_lt_iff_lt_mul (by omega)]
  have : (u + 1) * B ≤ Y * B := Nat.mul_le_mul_right _ hu
  rw [Nat.succ_mul] at this
  rw [Nat.mul_comm B]
  omega

theorem guess_over {B d yn0 q r : Nat} (h0 : yn0 < B) (hq : q ≤ B) (hr : B ≤ r) : q * yn0 ≤ B * r + d := by
  have h1 : q * yn0 ≤ B * yn0 := Nat.mul_le_mul_right _ hq
  have h2 : B * yn0 ≤ B * r := Nat.mul_le_mul_left _ (by omega)
  omega

theorem guess_near {B Y u yn1 yn0 : Nat} (hY : Y = yn1 * B + yn0) (h0 : yn0 < B) (h2 : B ≤ 2 * yn1) (hu : u < Y) : u / yn1 ≤ B + 1 := by
  have h1 : 0 < yn1 := by omega
  refine Nat.le_of_lt_succ ?_
  rw [Nat.div_lt_iff_lt_mul h1, Nat.succ_mul, Nat.add_mul, Nat.one_mul, Nat.mul_comm B]
  omega

/-- The whole: two digits, one behind the other. -/
theorem two_digits {B Y u d1 d0 : Nat} :
    ((u * B + d1) % Y * B + d0) % Y = ((u * B + d1) * B + d0) % Y := by
  rw [Nat.add_mod, Nat.mul_mod, Nat.mod_mod, ← Nat.mul_mod, ← Nat.add_mod]

end Obol
