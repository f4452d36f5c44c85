/- The references' loops over bits: products by doubling, powers from the highest bit on. -/
namespace Obol

/-- What package modular reckons: names of their own, so that nothing looks inside. -/
def mulM (m a b : Nat) : Nat := a * b % m
def addM (m a b : Nat) : Nat := (a + b) % m
def subM (m a b : Nat) : Nat := (a % m + m - b % m) % m
def powM (m a e : Nat) : Nat := a ^ e % m

/-- A sum below m, by the subtraction that never goes round. -/
theorem add_mod_by {m a b : Nat} (ha : a < m) (hb : b < m) : (if m - b ≤ a then a - (m - b) else a + b) = (a + b) % m := by
  split
  · rename_i h
    rw [Nat.mod_eq_sub_mod (by omega), Nat.mod_eq_of_lt (by omega)]
    omega
  · rw [Nat.mod_eq_of_lt (by omega)]

theorem high_step (y i : Nat) (hi : i < 64) : y / 2 ^ (64 - (i + 1)) = 2 * (y / 2 ^ (64 - i)) + y / 2 ^ (63 - i) % 2 := by
  have e1 : 64 - (i + 1) = 63 - i := by omega
  have e2 : 64 - i = (63 - i) + 1 := by omega
  rw [e1, e2, Nat.pow_succ, ← Nat.div_div_eq_div_mul]
  omega

/-- A product's next step. -/
theorem mul_step (m x y i : Nat) (hi : i < 64) :
    ((y / 2 ^ (64 - i) * x % m + y / 2 ^ (64 - i) * x % m) % m + (if y / 2 ^ (63 - i) % 2 = 1 then x % m else 0)) % m = y / 2 ^ (64 - (i + 1)) * x % m := by
  rw [high_step y i hi]
  have hb : y / 2 ^ (63 - i) % 2 = 0 ∨ y / 2 ^ (63 - i) % 2 = 1 := by omega
  generalize y / 2 ^ (64 - i) = q at *
  rcases hb with e | e
  · rw [if_neg (by omega), e, Nat.add_zero, Nat.add_zero, Nat.mod_mod, ← Nat.add_mod, ← Nat.add_mul, Nat.two_mul]
  · rw [if_pos e, e, ← Nat.add_mod, Nat.add_mul, Nat.one_mul, Nat.mul_assoc, Nat.two_mul]
    rw [Nat.add_mod, ← Nat.add_mod (q * x) (q * x), ← Nat.add_mod]

/-- A power's next step. -/
theorem pow_step (m a e i : Nat) (hi : i < 64) :
    (if e / 2 ^ (63 - i) % 2 = 1 then (a ^ (e / 2 ^ (64 - i)) % m) * (a ^ (e / 2 ^ (64 - i)) % m) % m * a % m else (a ^ (e / 2 ^ (64 - i)) % m) * (a ^ (e / 2 ^ (64 - i)) % m) % m) =
      a ^ (e / 2 ^ (64 - (i + 1))) % m := by
  rw [high_step e i hi]
  have hb : e / 2 ^ (63 - i) % 2 = 0 ∨ e / 2 ^ (63 - i) % 2 = 1 := by omega
  generalize e / 2 ^ (64 - i) = q at *
  have hs : (a ^ q % m) * (a ^ q % m) % m = a ^ (2 * q) % m := by rw [← Nat.mul_mod, ← Nat.pow_add, Nat.two_mul]
  rw [hs]
  rcases hb with e | e
  · rw [if_neg (by omega), e, Nat.add_zero]
  · rw [if_pos e, e, Nat.mul_mod, Nat.mod_mod, ← Nat.mul_mod, ← Nat.pow_succ]

/-- Low bits first: what is gathered, times what is left. -/
theorem low_pow (m a e out : Nat) (_he : e ≠ 0) :
    (if e % 2 = 1 then out * a % m else out) * (a * a % m) ^ (e / 2) % m = out * a ^ e % m := by
  have h2 : (a * a) ^ (e / 2) = a ^ (2 * (e / 2)) := by rw [Nat.pow_mul, Nat.pow_two]
  rw [Nat.mul_mod, ← Nat.pow_mod, ← Nat.mul_mod, h2]
  split
  · rename_i h
    rw [Nat.mul_mod, Nat.mod_mod, ← Nat.mul_mod, Nat.mul_assoc, ← Nat.pow_succ']
    congr 3
    omega
  · congr 3
    omega

end Obol
