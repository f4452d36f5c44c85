import Derived.Test.YtcdfpceagobicaaDoorPrime
import Derived.Test.YtcdfpceagobicaaDoorEdw
/- The field of R elements, the Edwards curve over it, and a first point. -/
namespace Obol

theorem R_pos : 0 < R := by decide +kernel
instance : NeZero R := ⟨by decide +kernel⟩
abbrev Fr := Fin R

def fr (a : Nat) : Fr := ⟨a % R, Nat.mod_lt _ R_pos⟩
theorem fr_val (a : Nat) : (fr a).val = a % R := rfl
theorem fr_of (a : Fr) : fr a.val = a := Fin.ext (Nat.mod_eq_of_lt a.isLt)
theorem val_mul (a b : Fr) : (a * b).val = a.val * b.val % R := rfl
theorem val_add (a b : Fr) : (a + b).val = (a.val + b.val) % R := rfl
theorem val_sub (a b : Fr) : (a - b).val = (R - b.val + a.val) % R := rfl
theorem val_neg (a : Fr) : (-a).val = (R - a.val) % R := rfl
theorem val_num (n : Nat) : (OfNat.ofNat n : Fr).val = n % R := rfl
theorem val_zero : (0 : Fr).val = 0 := by rw [val_num]; decide +kernel
theorem val_one : (1 : Fr).val = 1 := by rw [val_num]; decide +kernel

theorem val_eq_zero {a : Fr} : a = 0 ↔ a.val = 0 := by
  constructor
  · intro h; rw [h, val_zero]
  · intro h; exact Fin.ext (by rw [h, val_zero])

theorem powm_lt (m f a e : Nat) (hm : 0 < m) : powm m f a e < m := by
  induction f generalizing a e with
  | zero => exact Nat.mod_lt _ hm
  | succ f ih =>
    unfold powm
    split
    · exact Nat.mod_lt _ hm
    · split
      · exact Nat.mod_lt _ hm
      · exact ih _ _

def finv (a : Fr) : Fr := ⟨powm R 64 a.val (R - 2), powm_lt _ _ _ _ R_pos⟩
theorem finv_val (a : Fr) : (finv a).val = a.val ^ (R - 2) % R := powm_eq R 64 a.val (R - 2) (by decide +kernel)

theorem fr_dom (a b : Fr) (h : a * b = 0) : a = 0 ∨ b = 0 := by
  rw [val_eq_zero, val_mul] at h
  refine Classical.byContradiction fun hn => ?_
  have hn := not_or.1 hn
  refine rootR.nonzero (a := a.val) (b := b.val) ?_ ?_ h
  · rw [Nat.mod_eq_of_lt a.isLt]; exact fun e => hn.1 (val_eq_zero.2 e)
  · rw [Nat.mod_eq_of_lt b.isLt]; exact fun e => hn.2 (val_eq_zero.2 e)

theorem finv_mul (a : Fr) (h : a ≠ 0) : a * finv a = 1 := by
  refine Fin.ext ?_
  rw [val_mul, finv_val, val_one, Nat.mul_mod, Nat.mod_mod, ← Nat.mul_mod, Nat.mul_comm, ← Nat.pow_succ]
  have := rootR.fermat a.val (by rw [Nat.mod_eq_of_lt a.isLt]; exact fun e => h (val_eq_zero.2 e))
  rwa [show (R - 2).succ = R - 1 by decide +kernel]

theorem d_nonsq (x : Fr) : x * x ≠ fr 439 := by
  intro h
  have h := congrArg Fin.val h
  rw [val_mul, fr_val] at h
  have := rootR.euler (by decide +kernel) 439 x.val (by decide +kernel) h
  rw [← powm_eq R 64 439 ((R - 1) / 2) (by decide +kernel)] at this
  exact absurd this (by decide +kernel)

/-- The curve. -/
def K : Ground R where
  inv := finv
  d := fr 439
  i := fr (powm R 64 3 ((R - 1) / 4))
  ne := fun h => absurd (congrArg Fin.val h) (by decide +kernel)
  two := fun h => absurd (congrArg Fin.val h) (by decide +kernel)
  dom := fr_dom
  inv_mul := finv_mul
  i2 := Fin.ext (by decide +kernel)
  nd := d_nonsq

abbrev Pt := Pnt K

end Obol
