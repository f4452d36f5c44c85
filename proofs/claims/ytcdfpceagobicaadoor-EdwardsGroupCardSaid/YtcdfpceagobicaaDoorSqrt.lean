import Derived.Test.YtcdfpceagobicaaDoorPrime
/- Roots modulo R: there are two at most; and the steps by which one is found (Tonelli and Shanks). -/
namespace Obol

theorem R_two : 2 < R := rootR.big
theorem pow_cong {a b : Nat} (n : Nat) (h : a % R = b % R) : a ^ n % R = b ^ n % R := by rw [Nat.pow_mod, h, ← Nat.pow_mod]
theorem mul_cong {a b c d : Nat} (h : a % R = b % R) (k : c % R = d % R) : a * c % R = b * d % R := by rw [Nat.mul_mod, h, k, ← Nat.mul_mod]

theorem two_roots {x y : Nat} (hx : x < R) (hy : y < R) (h : x * x % R = y * y % R) : x = y ∨ x + y = R := by
  have key : ∀ x y, y < x → x < R → x * x % R = y * y % R → x + y = R := by
    intro x y hlt hx h
    have e : (x - y) * (x + y) % R = 0 := by
      have e1 : (x - y) * (x + y) = x * x - y * y := by
        rw [Nat.mul_comm, Nat.mul_self_sub_mul_self_eq]
      rw [e1]
      have e2 := Nat.mul_le_mul (Nat.le_of_lt hlt) (Nat.le_of_lt hlt)
      have d1 := Nat.div_add_mod (x * x) R
      have d2 := Nat.div_add_mod (y * y) R
      have e3 : x * x - y * y = R * (x * x / R - y * y / R) := by
        rw [Nat.mul_sub]
        omega
      rw [e3, Nat.mul_mod_right]
    refine Classical.byContradiction fun hn => ?_
    refine rootR.nonzero (a := x - y) (b := x + y) ?_ ?_ e
    · rw [Nat.mod_eq_of_lt (by omega)]; omega
    · by_cases hl : x + y < R
      · rw [Nat.mod_eq_of_lt hl]; omega
      · rw [Nat.mod_eq_sub_mod (by omega), Nat.mod_eq_of_lt (by omega)]; omega
  rcases Nat.lt_trichotomy x y with g | g | g
  · right; rw [Nat.add_comm]; exact key y x g hy h.symm
  · exact .inl g
  · exact .inr (key x y g hx h)

theorem one_root {u : Nat} (hu : u < R) (h : u * u % R = 1) (h1 : u ≠ 1) : u = R - 1 := by
  have := R_two
  rcases two_roots (x := u) (y := 1) hu (by omega) (by rw [h, Nat.mul_one, Nat.mod_eq_of_lt (by omega)]) with e | e
  · exact absurd e h1
  · omega

theorem last_sq : (R - 1) * (R - 1) % R = 1 := by decide +kernel

theorem three_pow (n : Nat) (h : n < 2 ^ 64) (e : powm R 64 3 n = R - 1) : 3 ^ n % R = R - 1 := by rw [← powm_eq R 64 3 n h]; exact e

/-- What is known ahead of each round. -/
structure TS (a c t x w : Nat) : Prop where
  c_lt : c < R
  t_lt : t < R
  x_lt : x < R
  w_pos : 0 < w
  w_le : w ≤ 18
  root : x * x % R = a * t % R
  tp : t ^ (2 ^ (w - 1)) % R = 1
  cp : c ^ (2 ^ (w - 1)) % R = R - 1

def oddR : Nat := 1099511628295
def oddH : Nat := 549755814148
theorem odd_H : oddH + oddH = oddR + 1 := rfl
theorem odd_R {w : Nat} (hw : w = 18) : oddR * 2 ^ (w - 1) = (R - 1) / 2 := by subst hw; decide +kernel

theorem TS.init {a w : Nat} (hw : w = 18) (h : a ^ ((R - 1) / 2) % R = 1) :
    TS a (3 ^ oddR % R) (a ^ oddR % R) (a ^ oddH % R) w where
  c_lt := Nat.mod_lt _ (by decide +kernel)
  t_lt := Nat.mod_lt _ (by decide +kernel)
  x_lt := Nat.mod_lt _ (by decide +kernel)
  w_pos := by omega
  w_le := by omega
  root := by
    rw [← Nat.mul_mod, ← Nat.pow_add, Nat.mul_mod a, Nat.mod_mod, ← Nat.mul_mod, Nat.mul_comm a, ← Nat.pow_succ, odd_H]
  tp := by
    rw [← Nat.pow_mod, ← Nat.pow_mul, odd_R hw]
    exact h
  cp := by
    rw [← Nat.pow_mod, ← Nat.pow_mul, odd_R hw]
    exact three_pow _ (by decide +kernel) (by decide +kernel)

theorem sq_pow (t i : Nat) : t ^ 2 ^ i % R * (t ^ 2 ^ i % R) % R = t ^ 2 ^ (i + 1) % R := by
  rw [← Nat.mul_mod, ← Nat.pow_add, Nat.pow_succ]
  congr 2
  omega

theorem TS.step {a c t x w : Nat} (h : TS a c t x w) {i : Nat} (h0 : 0 < i) (hi : t ^ 2 ^ i % R = 1) (hm : ∀ j, j < i → t ^ 2 ^ j % R ≠ 1) {b : Nat} (hb : b = c ^ (2 ^ (w - i - 1)) % R) :
    i < w ∧ TS a (b * b % R) (t * (b * b % R) % R) (x * b % R) i := by
  have hRp : 0 < R := by decide +kernel
  have hiw : i < w := by
    refine Nat.lt_of_not_le fun hle => ?_
    exact hm (w - 1) (by have := h.w_pos; omega) h.tp
  have hw := h.w_le
  have cc : (b * b % R) ^ 2 ^ (i - 1) % R = R - 1 := by
    rw [← Nat.pow_mod, ← Nat.pow_two, ← Nat.pow_mul, hb, ← Nat.pow_mod, ← Nat.pow_mul]
    have : 2 ^ (w - i - 1) * (2 * 2 ^ (i - 1)) = 2 ^ (w - 1) := by
      rw [← Nat.pow_succ', ← Nat.pow_add]
      congr 1
      omega
    rw [this]
    exact h.cp
  have tt : t ^ 2 ^ (i - 1) % R = R - 1 := by
    refine one_root (Nat.mod_lt _ hRp) ?_ (hm (i - 1) (by omega))
    rw [sq_pow, show i - 1 + 1 = i by omega]
    exact hi
  refine ⟨hiw, Nat.mod_lt _ hRp, Nat.mod_lt _ hRp, Nat.mod_lt _ hRp, h0, by omega, ?_, ?_, cc⟩
  · have e1 : x * b % R * (x * b % R) % R = x * x * (b * b) % R := by
      rw [← Nat.mul_mod]
      congr 1
      simp only [Nat.mul_comm, Nat.mul_left_comm]
    have e2 : a * (t * (b * b % R) % R) % R = a * t * (b * b) % R := by
      rw [Nat.mul_mod a, Nat.mod_mod, ← Nat.mul_mod, ← Nat.mul_assoc, Nat.mul_mod, Nat.mod_mod, ← Nat.mul_mod]
    rw [e1, e2]
    exact mul_cong h.root rfl
  · rw [← Nat.pow_mod, Nat.mul_pow, Nat.mul_mod, tt, cc]
    exact last_sq

theorem TS.done {a c x w : Nat} (h : TS a c 1 x w) : x * x % R = a % R := by rw [h.root, Nat.mul_one]

/-- Has it a root? -/
def sqB (a : Nat) : Bool := a % R == 0 || a ^ ((R - 1) / 2) % R == 1

theorem sqB_iff (a : Nat) : sqB a = true ↔ ∃ x, x < R ∧ x * x % R = a % R := by
  unfold sqB
  simp only [Bool.or_eq_true, beq_iff_eq]
  constructor
  · rintro (h | h)
    · exact ⟨0, by decide +kernel, by rw [h]; decide +kernel⟩
    · by_cases h0 : a % R = 0
      · exact ⟨0, by decide +kernel, by rw [h0]; decide +kernel⟩
      · exact rootR.square (by decide +kernel) a h0 h
  · rintro ⟨x, hx, h⟩
    by_cases h0 : a % R = 0
    · exact .inl h0
    · exact .inr (rootR.euler (by decide +kernel) a x h0 h)

end Obol
