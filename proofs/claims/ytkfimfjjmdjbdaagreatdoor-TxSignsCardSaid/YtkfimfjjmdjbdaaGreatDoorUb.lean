import Derived.Test.YtkfimfjjmdjbdaaGreatDoorUa
import Derived.Deep.RegionWith
import Derived.Deep.RegionHeld3
import Derived.Deep.CutBlock
import Derived.Deep.DeepCutAuto
import Derived.BigRegion
set_option linter.unusedVariables false
set_option linter.unusedSimpArgs false
set_option linter.unusedSectionVars false
/- The Edwards curve -x x + y y = 1 + d x x y y over a field in which -1 is a square and d is none: its points are a group. No program in sight. -/
namespace Obol

theorem assoc_x {ell : Nat} [NeZero ell] {x1 y1 x2 y2 x3 y3 d N M A B N2 M2 A2 B2 : Fin ell} (hN : N = x1*y2 + y1*x2) (hM : M = y1*y2 + x1*x2) (hA : A = 1 + d*x1*y1*x2*y2) (hB : B = 1 - d*x1*y1*x2*y2)
    (hN2 : N2 = x2*y3 + y2*x3) (hM2 : M2 = y2*y3 + x2*x3) (hA2 : A2 = 1 + d*x2*y2*x3*y3) (hB2 : B2 = 1 - d*x2*y2*x3*y3)
    (h1 : d*x1*x1*y1*y1 + 1 + x1*x1 - y1*y1 = 0) (h2 : d*x2*x2*y2*y2 + 1 + x2*x2 - y2*y2 = 0) (h3 : d*x3*x3*y3*y3 + 1 + x3*x3 - y3*y3 = 0) :
    (N*B*y3 + M*A*x3)*(A2*B2 + d*x1*y1*N2*M2) - (x1*M2*A2 + y1*N2*B2)*(A*B + d*x3*y3*N*M) = 0 := by
  have e : (N*B*y3 + M*A*x3)*(A2*B2 + d*x1*y1*N2*M2) - (x1*M2*A2 + y1*N2*B2)*(A*B + d*x3*y3*N*M) =
      (x1*x2*x2*x2*x2*y2*y2*y2*x3*x3*y3*d*d + x1*x2*x2*x2*x2*y2*x3*x3*y3*d + x1*x2*x2*x2*y2*y2*y2*y2*x3*y3*y3*d*d + x1*x2*x2*x2*y2*y2*x3*x3*x3*d + x1*x2*x2*x2*y2*y2*x3*d - x1*x2*x2*y2*y2*y2*y3*y3*y3*d + x1*x2*x2*y2*y2*y2*y3*d - x1*x2*y2*y2*y2*y2*x3*y3*y3*d - y1*x2*x2*x2*x2*y2*y2*y2*x3*y3*y3*d*d - y1*x2*x2*x2*x2*y2*x3*y3*y3*d - y1*x2*x2*x2*y2*y2*y2*y2*x3*x3*y3*d*d - y1*x2*x2*x2*y2*y2*y3*y3*y3*d + y1*x2*x2*x2*y2*y2*y3*d + y1*x2*x2*y2*y2*y2*x3*x3*x3*d + y1*x2*x2*y2*y2*y2*x3*d + y1*x2*y2*y2*y2*y2*x3*x3*y3*d) * (d*x1*x1*y1*y1 + 1 + x1*x1 - y1*y1) +
      (-x1*x1*x1*x2*x2*y2*x3*x3*y3*d - x1*x1*x1*x2*y2*y2*x3*y3*y3*d - x1*x1*x1*x2*x3*x3*x3*y3*y3*d - x1*x1*x1*x2*x3*x3*x3 + x1*x1*x1*x2*x3*y3*y3 - x1*x1*x1*x2*x3 - x1*x1*x1*y2*x3*x3*y3*y3*y3*d - x1*x1*x1*y2*x3*x3*y3 + x1*x1*x1*y2*y3*y3*y3 - x1*x1*x1*y2*y3 - x1*x1*y1*x2*x2*y2*x3*x3*x3*y3*y3*d*d + x1*x1*y1*x2*x2*y2*x3*y3*y3*d + x1*x1*y1*x2*y2*y2*x3*x3*y3*y3*y3*d*d + x1*x1*y1*x2*y2*y2*x3*x3*y3*d - x1*x1*y1*x2*x3*x3*y3*y3*y3*d - x1*x1*y1*x2*x3*x3*y3 + x1*x1*y1*x2*y3*y3*y3 - x1*x1*y1*x2*y3 - x1*x1*y1*y2*x3*x3*x3*y3*y3*d - x1*x1*y1*y2*x3*x3*x3 + x1*x1*y1*y2*x3*y3*y3 - x1*x1*y1*y2*x3 + x1*y1*y1*x2*x2*y2*x3*x3*y3*y3*y3*d*d + x1*y1*y1*x2*x2*y2*x3*x3*y3*d - x1*y1*y1*x2*y2*y2*x3*x3*x3*y3*y3*d*d + x1*y1*y1*x2*y2*y2*x3*y3*y3*d + x1*y1*y1*x2*x3*x3*x3*y3*y3*d + x1*y1*y1*x2*x3*x3*x3 - x1*y1*y1*x2*x3*y3*y3 + x1*y1*y1*x2*x3 + x1*y1*y1*y2*x3*x3*y3*y3*y3*d + x1*y1*y1*y2*x3*x3*y3 - x1*y1*y1*y2*y3*y3*y3 + x1*y1*y1*y2*y3 - x1*x2*x2*y2*x3*x3*y3*d - x1*x2*y2*y2*x3*y3*y3*d - x1*x2*x3*x3*x3*y3*y3*d - x1*x2*x3*x3*x3 + x1*x2*x3*y3*y3 - x1*x2*x3 - x1*y2*x3*x3*y3*y3*y3*d - x1*y2*x3*x3*y3 + x1*y2*y3*y3*y3 - x1*y2*y3 - y1*y1*y1*x2*x2*y2*x3*y3*y3*d - y1*y1*y1*x2*y2*y2*x3*x3*y3*d + y1*y1*y1*x2*x3*x3*y3*y3*y3*d + y1*y1*y1*x2*x3*x3*y3 - y1*y1*y1*x2*y3*y3*y3 + y1*y1*y1*x2*y3 + y1*y1*y1*y2*x3*x3*x3*y3*y3*d + y1*y1*y1*y2*x3*x3*x3 - y1*y1*y1*y2*x3*y3*y3 + y1*y1*y1*y2*x3 + y1*x2*x2*y2*x3*y3*y3*d + y1*x2*y2*y2*x3*x3*y3*d - y1*x2*x3*x3*y3*y3*y3*d - y1*x2*x3*x3*y3 + y1*x2*y3*y3*y3 - y1*x2*y3 - y1*y2*x3*x3*x3*y3*y3*d - y1*y2*x3*x3*x3 + y1*y2*x3*y3*y3 - y1*y2*x3) * (d*x2*x2*y2*y2 + 1 + x2*x2 - y2*y2) +
      (x1*x1*x1*x2*x2*x2*x3 + x1*x1*x1*x2*x2*y2*y3 - x1*x1*x1*x2*y2*y2*x3 + x1*x1*x1*x2*x3 - x1*x1*x1*y2*y2*y2*y3 + x1*x1*x1*y2*y3 + x1*x1*y1*x2*x2*x2*y3 + x1*x1*y1*x2*x2*y2*x3*d + x1*x1*y1*x2*x2*y2*x3 - x1*x1*y1*x2*y2*y2*y3*d - x1*x1*y1*x2*y2*y2*y3 + x1*x1*y1*x2*y3 - x1*x1*y1*y2*y2*y2*x3 + x1*x1*y1*y2*x3 - x1*y1*y1*x2*x2*x2*x3 - x1*y1*y1*x2*x2*y2*y3*d - x1*y1*y1*x2*x2*y2*y3 + x1*y1*y1*x2*y2*y2*x3*d + x1*y1*y1*x2*y2*y2*x3 - x1*y1*y1*x2*x3 + x1*y1*y1*y2*y2*y2*y3 - x1*y1*y1*y2*y3 + x1*x2*x2*x2*x3 + x1*x2*x2*y2*y3 - x1*x2*y2*y2*x3 + x1*x2*x3 - x1*y2*y2*y2*y3 + x1*y2*y3 - y1*y1*y1*x2*x2*x2*y3 - y1*y1*y1*x2*x2*y2*x3 + y1*y1*y1*x2*y2*y2*y3 - y1*y1*y1*x2*y3 + y1*y1*y1*y2*y2*y2*x3 - y1*y1*y1*y2*x3 + y1*x2*x2*x2*y3 + y1*x2*x2*y2*x3 - y1*x2*y2*y2*y3 + y1*x2*y3 - y1*y2*y2*y2*x3 + y1*y2*x3) * (d*x3*x3*y3*y3 + 1 + x3*x3 - y3*y3) := by
    subst hN hM hA hB hN2 hM2 hA2 hB2
    clear h1 h2 h3
    grind
  rw [e, h1, h2, h3]
  grind

theorem assoc_y {ell : Nat} [NeZero ell] {x1 y1 x2 y2 x3 y3 d N M A B N2 M2 A2 B2 : Fin ell} (hN : N = x1*y2 + y1*x2) (hM : M = y1*y2 + x1*x2) (hA : A = 1 + d*x1*y1*x2*y2) (hB : B = 1 - d*x1*y1*x2*y2)
    (hN2 : N2 = x2*y3 + y2*x3) (hM2 : M2 = y2*y3 + x2*x3) (hA2 : A2 = 1 + d*x2*y2*x3*y3) (hB2 : B2 = 1 - d*x2*y2*x3*y3)
    (h1 : d*x1*x1*y1*y1 + 1 + x1*x1 - y1*y1 = 0) (h2 : d*x2*x2*y2*y2 + 1 + x2*x2 - y2*y2 = 0) (h3 : d*x3*x3*y3*y3 + 1 + x3*x3 - y3*y3 = 0) :
    (M*A*y3 + N*B*x3)*(A2*B2 - d*x1*y1*N2*M2) - (y1*M2*A2 + x1*N2*B2)*(A*B - d*x3*y3*N*M) = 0 := by
  have e : (M*A*y3 + N*B*x3)*(A2*B2 - d*x1*y1*N2*M2) - (y1*M2*A2 + x1*N2*B2)*(A*B - d*x3*y3*N*M) =
      (-x1*x2*x2*x2*x2*y2*y2*y2*x3*y3*y3*d*d - x1*x2*x2*x2*x2*y2*x3*y3*y3*d - x1*x2*x2*x2*y2*y2*y2*y2*x3*x3*y3*d*d - x1*x2*x2*x2*y2*y2*y3*y3*y3*d + x1*x2*x2*x2*y2*y2*y3*d + x1*x2*x2*y2*y2*y2*x3*x3*x3*d + x1*x2*x2*y2*y2*y2*x3*d + x1*x2*y2*y2*y2*y2*x3*x3*y3*d + y1*x2*x2*x2*x2*y2*y2*y2*x3*x3*y3*d*d + y1*x2*x2*x2*x2*y2*x3*x3*y3*d + y1*x2*x2*x2*y2*y2*y2*y2*x3*y3*y3*d*d + y1*x2*x2*x2*y2*y2*x3*x3*x3*d + y1*x2*x2*x2*y2*y2*x3*d - y1*x2*x2*y2*y2*y2*y3*y3*y3*d + y1*x2*x2*y2*y2*y2*y3*d - y1*x2*y2*y2*y2*y2*x3*y3*y3*d) * (d*x1*x1*y1*y1 + 1 + x1*x1 - y1*y1) +
      (x1*x1*x1*x2*x2*y2*x3*y3*y3*d + x1*x1*x1*x2*y2*y2*x3*x3*y3*d - x1*x1*x1*x2*x3*x3*y3*y3*y3*d - x1*x1*x1*x2*x3*x3*y3 + x1*x1*x1*x2*y3*y3*y3 - x1*x1*x1*x2*y3 - x1*x1*x1*y2*x3*x3*x3*y3*y3*d - x1*x1*x1*y2*x3*x3*x3 + x1*x1*x1*y2*x3*y3*y3 - x1*x1*x1*y2*x3 - x1*x1*y1*x2*x2*y2*x3*x3*y3*y3*y3*d*d - x1*x1*y1*x2*x2*y2*x3*x3*y3*d + x1*x1*y1*x2*y2*y2*x3*x3*x3*y3*y3*d*d - x1*x1*y1*x2*y2*y2*x3*y3*y3*d - x1*x1*y1*x2*x3*x3*x3*y3*y3*d - x1*x1*y1*x2*x3*x3*x3 + x1*x1*y1*x2*x3*y3*y3 - x1*x1*y1*x2*x3 - x1*x1*y1*y2*x3*x3*y3*y3*y3*d - x1*x1*y1*y2*x3*x3*y3 + x1*x1*y1*y2*y3*y3*y3 - x1*x1*y1*y2*y3 + x1*y1*y1*x2*x2*y2*x3*x3*x3*y3*y3*d*d - x1*y1*y1*x2*x2*y2*x3*y3*y3*d - x1*y1*y1*x2*y2*y2*x3*x3*y3*y3*y3*d*d - x1*y1*y1*x2*y2*y2*x3*x3*y3*d + x1*y1*y1*x2*x3*x3*y3*y3*y3*d + x1*y1*y1*x2*x3*x3*y3 - x1*y1*y1*x2*y3*y3*y3 + x1*y1*y1*x2*y3 + x1*y1*y1*y2*x3*x3*x3*y3*y3*d + x1*y1*y1*y2*x3*x3*x3 - x1*y1*y1*y2*x3*y3*y3 + x1*y1*y1*y2*x3 + x1*x2*x2*y2*x3*y3*y3*d + x1*x2*y2*y2*x3*x3*y3*d - x1*x2*x3*x3*y3*y3*y3*d - x1*x2*x3*x3*y3 + x1*x2*y3*y3*y3 - x1*x2*y3 - x1*y2*x3*x3*x3*y3*y3*d - x1*y2*x3*x3*x3 + x1*y2*x3*y3*y3 - x1*y2*x3 + y1*y1*y1*x2*x2*y2*x3*x3*y3*d + y1*y1*y1*x2*y2*y2*x3*y3*y3*d + y1*y1*y1*x2*x3*x3*x3*y3*y3*d + y1*y1*y1*x2*x3*x3*x3 - y1*y1*y1*x2*x3*y3*y3 + y1*y1*y1*x2*x3 + y1*y1*y1*y2*x3*x3*y3*y3*y3*d + y1*y1*y1*y2*x3*x3*y3 - y1*y1*y1*y2*y3*y3*y3 + y1*y1*y1*y2*y3 - y1*x2*x2*y2*x3*x3*y3*d - y1*x2*y2*y2*x3*y3*y3*d - y1*x2*x3*x3*x3*y3*y3*d - y1*x2*x3*x3*x3 + y1*x2*x3*y3*y3 - y1*x2*x3 - y1*y2*x3*x3*y3*y3*y3*d - y1*y2*x3*x3*y3 + y1*y2*y3*y3*y3 - y1*y2*y3) * (d*x2*x2*y2*y2 + 1 + x2*x2 - y2*y2) +
      (x1*x1*x1*x2*x2*x2*y3 + x1*x1*x1*x2*x2*y2*x3 - x1*x1*x1*x2*y2*y2*y3 + x1*x1*x1*x2*y3 - x1*x1*x1*y2*y2*y2*x3 + x1*x1*x1*y2*x3 + x1*x1*y1*x2*x2*x2*x3 + x1*x1*y1*x2*x2*y2*y3*d + x1*x1*y1*x2*x2*y2*y3 - x1*x1*y1*x2*y2*y2*x3*d - x1*x1*y1*x2*y2*y2*x3 + x1*x1*y1*x2*x3 - x1*x1*y1*y2*y2*y2*y3 + x1*x1*y1*y2*y3 - x1*y1*y1*x2*x2*x2*y3 - x1*y1*y1*x2*x2*y2*x3*d - x1*y1*y1*x2*x2*y2*x3 + x1*y1*y1*x2*y2*y2*y3*d + x1*y1*y1*x2*y2*y2*y3 - x1*y1*y1*x2*y3 + x1*y1*y1*y2*y2*y2*x3 - x1*y1*y1*y2*x3 + x1*x2*x2*x2*y3 + x1*x2*x2*y2*x3 - x1*x2*y2*y2*y3 + x1*x2*y3 - x1*y2*y2*y2*x3 + x1*y2*x3 - y1*y1*y1*x2*x2*x2*x3 - y1*y1*y1*x2*x2*y2*y3 + y1*y1*y1*x2*y2*y2*x3 - y1*y1*y1*x2*x3 + y1*y1*y1*y2*y2*y2*y3 - y1*y1*y1*y2*y3 + y1*x2*x2*x2*x3 + y1*x2*x2*y2*y3 - y1*x2*y2*y2*x3 + y1*x2*x3 - y1*y2*y2*y2*y3 + y1*y2*y3) * (d*x3*x3*y3*y3 + 1 + x3*x3 - y3*y3) := by
    subst hN hM hA hB hN2 hM2 hA2 hB2
    clear h1 h2 h3
    grind
  rw [e, h1, h2, h3]
  grind

structure Ground (ell : Nat) [NeZero ell] where
  inv : Fin ell → Fin ell
  d : Fin ell
  i : Fin ell
  ne : (1 : Fin ell) ≠ 0
  two : (2 : Fin ell) ≠ 0
  dom : ∀ a b : Fin ell, a * b = 0 → a = 0 ∨ b = 0
  inv_mul : ∀ a : Fin ell, a ≠ 0 → a * inv a = 1
  i2 : i * i = -1
  nd : ∀ x : Fin ell, x * x ≠ d

section
variable {ell : Nat} [NeZero ell]

theorem Ground.cancel (k : Ground ell) {a b c : Fin ell} (ha : a ≠ 0) (h : a * b = a * c) : b = c := by
  have h1 : a * (b - c) = 0 := by grind
  rcases k.dom _ _ h1 with e | e
  · exact absurd e ha
  · grind

theorem Ground.mul_ne (k : Ground ell) {a b : Fin ell} (ha : a ≠ 0) (hb : b ≠ 0) : a * b ≠ 0 := fun h => by
  rcases k.dom _ _ h with e | e
  · exact ha e
  · exact hb e

def Ground.On (k : Ground ell) (x y : Fin ell) : Prop := y * y - x * x = 1 + k.d * (x * x) * (y * y)

theorem Ground.nonsq (k : Ground ell) {a b : Fin ell} (h : a * a = -k.d * (b * b)) : b = 0 := by
  refine Classical.byContradiction fun hb => ?_
  have hi := k.inv_mul b hb
  have h2 := k.i2
  exact k.nd (k.i * a * k.inv b) (by grind)

/-- The denominators are never 0. -/
theorem Ground.den (k : Ground ell) {x1 y1 x2 y2 e : Fin ell} (h1 : k.On x1 y1) (h2 : k.On x2 y2) (he : e * e = 1) : k.d * (x1 * x2 * y1 * y2) ≠ e := by
  intro ht
  unfold Ground.On at h1 h2
  have hi := k.i2
  have p1 : (k.i * x1 + e * y1) * (k.i * x1 + e * y1) = -k.d * ((k.i * x1 * y1 * (k.i * x2 + y2)) * (k.i * x1 * y1 * (k.i * x2 + y2))) := by grind
  have p2 : (k.i * x1 - e * y1) * (k.i * x1 - e * y1) = -k.d * ((k.i * x1 * y1 * (k.i * x2 - y2)) * (k.i * x1 * y1 * (k.i * x2 - y2))) := by grind
  have q1 := k.nonsq p1
  have q2 := k.nonsq p2
  have hne := k.ne
  have r : 2 * (k.i * x1 * y1 * y2) = 0 := by grind
  rcases k.dom _ _ r with a | a
  · exact k.two a
  · have : e * e = 0 := by grind
    exact hne (he.symm.trans this)

theorem Ground.den_plus (k : Ground ell) {x1 y1 x2 y2 : Fin ell} (h1 : k.On x1 y1) (h2 : k.On x2 y2) : 1 + k.d * (x1 * x2 * y1 * y2) ≠ 0 := fun h =>
  k.den h1 h2 (e := -1) (by grind) (by grind)
theorem Ground.den_minus (k : Ground ell) {x1 y1 x2 y2 : Fin ell} (h1 : k.On x1 y1) (h2 : k.On x2 y2) : 1 - k.d * (x1 * x2 * y1 * y2) ≠ 0 := fun h =>
  k.den h1 h2 (e := 1) (by grind) (by grind)

/-- A sum's two coordinates: what they are, without a quotient. -/
theorem Ground.on_sum (k : Ground ell) {x1 y1 x2 y2 x3 y3 : Fin ell} (h1 : k.On x1 y1) (h2 : k.On x2 y2) (hx : x3 * (1 + k.d * (x1 * x2 * y1 * y2)) = x1 * y2 + y1 * x2)
    (hy : y3 * (1 - k.d * (x1 * x2 * y1 * y2)) = y1 * y2 + x1 * x2) : k.On x3 y3 := by
  have n1 := k.den_plus h1 h2
  have n2 := k.den_minus h1 h2
  unfold Ground.On at *
  generalize hA : 1 + k.d * (x1 * x2 * y1 * y2) = A at *
  generalize hB : 1 - k.d * (x1 * x2 * y1 * y2) = B at *
  refine k.cancel (k.mul_ne (k.mul_ne n1 n1) (k.mul_ne n2 n2)) ?_
  have key : A * A * ((y1 * y2 + x1 * x2) * (y1 * y2 + x1 * x2)) - B * B * ((x1 * y2 + y1 * x2) * (x1 * y2 + y1 * x2)) =
      A * A * (B * B) + k.d * ((x1 * y2 + y1 * x2) * (x1 * y2 + y1 * x2)) * ((y1 * y2 + x1 * x2) * (y1 * y2 + x1 * x2)) := by
    subst hA hB
    clear hx hy n1 n2
    grind
  rw [← hx, ← hy] at key
  clear hx hy hA hB h1 h2 n1 n2
  grind


structure Pnt (k : Ground ell) where
  x : Fin ell
  y : Fin ell
  on : k.On x y

variable {k : Ground ell}
theorem Pnt.ext {p q : Pnt k} (hx : p.x = q.x) (hy : p.y = q.y) : p = q := by
  cases p; cases q
  simp only at hx hy
  subst hx hy
  rfl

def Pnt.dx (p q : Pnt k) : Fin ell := 1 + k.d * (p.x * q.x * p.y * q.y)
def Pnt.dy (p q : Pnt k) : Fin ell := 1 - k.d * (p.x * q.x * p.y * q.y)
theorem Pnt.dx_ne (p q : Pnt k) : p.dx q ≠ 0 := k.den_plus p.on q.on
theorem Pnt.dy_ne (p q : Pnt k) : p.dy q ≠ 0 := k.den_minus p.on q.on

theorem Ground.div_mul (k : Ground ell) {a b : Fin ell} (h : b ≠ 0) : a * k.inv b * b = a := by
  have := k.inv_mul b h
  grind

def Pnt.add (p q : Pnt k) : Pnt k :=
  ⟨(p.x * q.y + p.y * q.x) * k.inv (p.dx q), (p.y * q.y + p.x * q.x) * k.inv (p.dy q), k.on_sum p.on q.on (k.div_mul (p.dx_ne q)) (k.div_mul (p.dy_ne q))⟩

theorem Pnt.add_x (p q : Pnt k) : (p.add q).x * p.dx q = p.x * q.y + p.y * q.x := k.div_mul (p.dx_ne q)
theorem Pnt.add_y (p q : Pnt k) : (p.add q).y * p.dy q = p.y * q.y + p.x * q.x := k.div_mul (p.dy_ne q)

theorem Pnt.eq_add {p q s : Pnt k} (hx : s.x * p.dx q = p.x * q.y + p.y * q.x) (hy : s.y * p.dy q = p.y * q.y + p.x * q.x) : s = p.add q := by
  refine Pnt.ext (k.cancel (p.dx_ne q) ?_) (k.cancel (p.dy_ne q) ?_)
  · have := p.add_x q
    grind
  · have := p.add_y q
    grind

def Pnt.zero : Pnt k := ⟨0, 1, by unfold Ground.On; grind⟩
def Pnt.neg (p : Pnt k) : Pnt k := ⟨-p.x, p.y, by have := p.on; unfold Ground.On at *; grind⟩

theorem Pnt.add_comm (p q : Pnt k) : p.add q = q.add p := by
  refine Pnt.eq_add ?_ ?_
  · have := p.add_x q
    unfold Pnt.dx at *
    grind
  · have := p.add_y q
    unfold Pnt.dy at *
    grind

theorem Pnt.zero_add (p : Pnt k) : Pnt.zero.add p = p := by
  refine (Pnt.eq_add ?_ ?_).symm <;> simp only [Pnt.dx, Pnt.dy, Pnt.zero] <;> grind

theorem Pnt.neg_add (p : Pnt k) : p.neg.add p = Pnt.zero := by
  have := p.on
  unfold Ground.On at this
  refine (Pnt.eq_add ?_ ?_).symm <;> simp only [Pnt.dx, Pnt.dy, Pnt.zero, Pnt.neg] <;> grind

theorem Pnt.on' (p : Pnt k) : k.d * p.x * p.x * p.y * p.y + 1 + p.x * p.x - p.y * p.y = 0 := by
  have := p.on
  unfold Ground.On at this
  grind

theorem Ground.zero_of (k : Ground ell) {a b : Fin ell} (ha : a ≠ 0) (h : a * b = 0) : b = 0 := by
  rcases k.dom _ _ h with e | e
  · exact absurd e ha
  · exact e

theorem fin_x {d x1 y1 x3 y3 a b c e A B A2 B2 : Fin ell}
    (K : (a * A * B * y3 + b * B * A * x3) * (A2 * B2 + d * x1 * y1 * (c * A2) * (e * B2)) - (x1 * (e * B2) * A2 + y1 * (c * A2) * B2) * (A * B + d * x3 * y3 * (a * A) * (b * B)) = 0) :
    A * B * (A2 * B2) * ((a * y3 + b * x3) * (1 + d * (x1 * c * y1 * e)) - (x1 * e + y1 * c) * (1 + d * (a * x3 * b * y3))) = 0 := by
  rw [← K]; clear K; grind
theorem fin_y {d x1 y1 x3 y3 a b c e A B A2 B2 : Fin ell}
    (K : (b * B * A * y3 + a * A * B * x3) * (A2 * B2 - d * x1 * y1 * (c * A2) * (e * B2)) - (y1 * (e * B2) * A2 + x1 * (c * A2) * B2) * (A * B - d * x3 * y3 * (a * A) * (b * B)) = 0) :
    A * B * (A2 * B2) * ((b * y3 + a * x3) * (1 - d * (x1 * c * y1 * e)) - (y1 * e + x1 * c) * (1 - d * (a * x3 * b * y3))) = 0 := by
  rw [← K]; clear K; grind

theorem Pnt.add_assoc (p q r : Pnt k) : (p.add q).add r = p.add (q.add r) := by
  have nz := k.mul_ne (k.mul_ne (p.dx_ne q) (p.dy_ne q)) (k.mul_ne (q.dx_ne r) (q.dy_ne r))
  have eA : p.dx q = 1 + k.d * p.x * p.y * q.x * q.y := by unfold Pnt.dx; grind
  have eB : p.dy q = 1 - k.d * p.x * p.y * q.x * q.y := by unfold Pnt.dy; grind
  have eC : q.dx r = 1 + k.d * q.x * q.y * r.x * r.y := by unfold Pnt.dx; grind
  have eD : q.dy r = 1 - k.d * q.x * q.y * r.x * r.y := by unfold Pnt.dy; grind
  have kx := assoc_x (x1 := p.x) (y1 := p.y) (x2 := q.x) (y2 := q.y) (x3 := r.x) (y3 := r.y) (d := k.d) (p.add_x q) (p.add_y q) eA eB (q.add_x r) (q.add_y r) eC eD p.on' q.on' r.on'
  have ky := assoc_y (x1 := p.x) (y1 := p.y) (x2 := q.x) (y2 := q.y) (x3 := r.x) (y3 := r.y) (d := k.d) (p.add_x q) (p.add_y q) eA eB (q.add_x r) (q.add_y r) eC eD p.on' q.on' r.on'
  have zx := k.zero_of nz (fin_x kx)
  have zy := k.zero_of nz (fin_y ky)
  have he := (p.add q).add_x r
  have hf := (p.add q).add_y r
  refine Pnt.eq_add (k.cancel ((p.add q).dx_ne r) ?_) (k.cancel ((p.add q).dy_ne r) ?_)
  · clear kx ky eA eB eC eD zy hf nz
    unfold Pnt.dx at *
    generalize ((p.add q).add r).x = u at *
    generalize (p.add q).x = a at *
    generalize (p.add q).y = b at *
    generalize (q.add r).x = c at *
    generalize (q.add r).y = e at *
    grind
  · clear kx ky eA eB eC eD zx he nz
    unfold Pnt.dy at *
    generalize ((p.add q).add r).y = u at *
    generalize (p.add q).x = a at *
    generalize (p.add q).y = b at *
    generalize (q.add r).x = c at *
    generalize (q.add r).y = e at *
    grind

/-! multiples -/
def Pnt.smul : Nat → Pnt k → Pnt k
  | 0, _ => Pnt.zero
  | n + 1, p => (Pnt.smul n p).add p

theorem Pnt.add_zero (p : Pnt k) : p.add Pnt.zero = p := by rw [Pnt.add_comm, Pnt.zero_add]
theorem Pnt.smul_add (m n : Nat) (p : Pnt k) : Pnt.smul (m + n) p = (Pnt.smul m p).add (Pnt.smul n p) := by
  induction n with
  | zero => exact (Pnt.add_zero _).symm
  | succ n ih => rw [← Nat.add_assoc]; show (Pnt.smul (m + n) p).add p = _; rw [ih, Pnt.add_assoc]; rfl
theorem Pnt.smul_one (p : Pnt k) : Pnt.smul 1 p = p := Pnt.zero_add p
theorem Pnt.smul_zero (n : Nat) : Pnt.smul n (Pnt.zero : Pnt k) = Pnt.zero := by
  induction n with
  | zero => rfl
  | succ n ih => show (Pnt.smul n Pnt.zero).add Pnt.zero = _; rw [ih, Pnt.add_zero]
theorem Pnt.smul_mul (m n : Nat) (p : Pnt k) : Pnt.smul (m * n) p = Pnt.smul m (Pnt.smul n p) := by
  induction m with
  | zero => rw [Nat.zero_mul]; rfl
  | succ m ih => rw [Nat.succ_mul, Pnt.smul_add, ih]; rfl
theorem Pnt.add_swap (p q r s : Pnt k) : (p.add q).add (r.add s) = (p.add r).add (q.add s) := by
  rw [Pnt.add_assoc, Pnt.add_assoc, ← Pnt.add_assoc q r s, Pnt.add_comm q r, Pnt.add_assoc r q s]
theorem Pnt.smul_dist (n : Nat) (p q : Pnt k) : Pnt.smul n (p.add q) = (Pnt.smul n p).add (Pnt.smul n q) := by
  induction n with
  | zero => exact (Pnt.zero_add _).symm
  | succ n ih => show (Pnt.smul n (p.add q)).add (p.add q) = _; rw [ih, Pnt.add_swap]; rfl
theorem Pnt.add_cancel {p q r : Pnt k} (h : p.add q = p.add r) : q = r := by
  have : p.neg.add (p.add q) = p.neg.add (p.add r) := by rw [h]
  rwa [← Pnt.add_assoc, ← Pnt.add_assoc, Pnt.neg_add, Pnt.zero_add, Pnt.zero_add] at this

/-! halves; the two points of one Y -/
theorem Pnt.half (p : Pnt k) (h : p.add p = Pnt.zero) : p = Pnt.zero ∨ (p.x = 0 ∧ p.y = -1) := by
  have hx := p.add_x p
  have hy := p.add_y p
  rw [h] at hx hy
  have on := p.on
  unfold Ground.On at on
  have hx : 0 * p.dx p = p.x * p.y + p.y * p.x := hx
  have hy : 1 * p.dy p = p.y * p.y + p.x * p.x := hy
  unfold Pnt.dy at hy
  have h2 : (2 : Fin ell) * (p.x * p.y) = 0 := by grind
  have two := k.two
  rcases k.dom _ _ h2 with e | e
  · exact absurd e two
  rcases k.dom _ _ e with e | e
  · have h3 : (p.y - 1) * (p.y + 1) = 0 := by grind
    rcases k.dom _ _ h3 with f | f
    · left
      refine Pnt.ext e ?_
      show p.y = 1
      grind
    · right
      exact ⟨e, by grind⟩
  · exfalso
    refine two ?_
    rw [e] at hy on
    clear hx h2 e h
    grind

theorem Pnt.eighth (p q : Pnt k) (hq : q.y = 0) (h : p.add p = q) : (k.d * (p.y * p.y) + 1) * (k.d * (p.y * p.y) + 1) = k.d + 1 := by
  have hy := p.add_y p
  rw [h, hq] at hy
  have on := p.on
  unfold Ground.On at on
  grind

theorem Ground.x_of_y (k : Ground ell) {x x' y : Fin ell} (h : k.On x y) (h' : k.On x' y) : x = x' ∨ x = -x' := by
  unfold Ground.On at h h'
  have hne : 1 + k.d * (y * y) ≠ 0 := by
    intro e
    have i2 := k.i2
    exact k.nd k.i (by grind)
  have h1 : (1 + k.d * (y * y)) * ((x - x') * (x + x')) = 0 := by grind
  rcases k.dom _ _ (k.zero_of hne h1) with e | e
  · left; grind
  · right; grind
theorem Ground.y_den (k : Ground ell) (y : Fin ell) : 1 + k.d * (y * y) ≠ 0 := by
  intro e
  have i2 := k.i2
  by_cases hy : y = 0
  · have := k.ne
    rw [hy] at e
    grind
  · have hi := k.inv_mul y hy
    exact k.nd (k.i * k.inv y) (by grind)
theorem Ground.neg_zero (k : Ground ell) : -(0 : Fin ell) = 0 := by have := k.ne; grind


/-! points X / Z, Y / Z -/
structure Scaled (x y z : Fin ell) (p : Pnt k) : Prop where
  z0 : z ≠ 0
  hx : x = p.x * z
  hy : y = p.y * z

theorem Scaled.one (p : Pnt k) : Scaled p.x p.y 1 p := ⟨k.ne, by grind, by grind⟩
theorem Scaled.tog {x y z x' y' z' : Fin ell} {p q : Pnt k} (h : Scaled x y z p) (h' : Scaled x' y' z' q) :
    Scaled (z * z' * (x * y' + y * x') * (z * z' * (z * z') - k.d * (x * x' * (y * y')))) (z * z' * (x * x' + y * y') * (z * z' * (z * z') + k.d * (x * x' * (y * y'))))
      ((z * z' * (z * z') + k.d * (x * x' * (y * y'))) * (z * z' * (z * z') - k.d * (x * x' * (y * y')))) (p.add q) := by
  have ax := p.add_x q
  have ay := p.add_y q
  have e1 : z * z' * (z * z') + k.d * (x * x' * (y * y')) = z * z' * (z * z') * p.dx q := by
    rw [h.hx, h.hy, h'.hx, h'.hy]
    unfold Pnt.dx
    clear ax ay
    grind
  have e2 : z * z' * (z * z') - k.d * (x * x' * (y * y')) = z * z' * (z * z') * p.dy q := by
    rw [h.hx, h.hy, h'.hx, h'.hy]
    unfold Pnt.dy
    clear ax ay
    grind
  have zz := k.mul_ne (k.mul_ne h.z0 h'.z0) (k.mul_ne h.z0 h'.z0)
  have n1 := k.mul_ne zz (p.dx_ne q)
  have n2 := k.mul_ne zz (p.dy_ne q)
  rw [e1, e2]
  refine ⟨k.mul_ne n1 n2, ?_, ?_⟩
  · have e3 : x * y' + y * x' = z * z' * ((p.add q).x * p.dx q) := by
      rw [h.hx, h.hy, h'.hx, h'.hy, ax]
      clear ax ay e1 e2
      grind
    rw [e3]
    generalize p.dx q = A
    generalize p.dy q = B
    clear ax ay e1 e2 e3
    grind
  · have e3 : x * x' + y * y' = z * z' * ((p.add q).y * p.dy q) := by
      rw [h.hx, h.hy, h'.hx, h'.hy, ay]
      clear ax ay e1 e2
      grind
    rw [e3]
    generalize p.dx q = A
    generalize p.dy q = B
    clear ax ay e1 e2 e3
    grind
theorem Scaled.out {x y z : Fin ell} {p : Pnt k} (h : Scaled x y z p) : x * k.inv z = p.x ∧ y * k.inv z = p.y := by
  have hi := k.inv_mul z h.z0
  have h1 := h.hx
  have h2 := h.hy
  exact ⟨by grind, by grind⟩

end
end Obol
/- The field of R elements, the Edwards curve over it, and a first point. -/
namespace Obol

theorem R_pos : 0 < R := by decide +kernel
instance : NeZero R := ⟨by decide +kernel⟩
abbrev Fr := Fin R

def fr (a : Nat) : Fr := ⟨a % R, Nat.mod_lt _ R_pos⟩
theorem fr_val (a : Nat) : (fr a).val = a % R := rfl
theorem fr_of (a : Fr) : fr a.val = a := Fin.ext (Nat.mod_eq_of_lt a.isLt)
theorem val_mul (a b : Fr) : (a * b).val = a.val * b.val % R := rfl
theorem val_add (a b : Fr) : (a + b).val = (a.val + b.val) % R := rfl
theorem val_sub (a b : Fr) : (a - b).val = (R - b.val + a.val) % R := rfl
theorem val_neg (a : Fr) : (-a).val = (R - a.val) % R := rfl
theorem val_num (n : Nat) : (OfNat.ofNat n : Fr).val = n % R := rfl
theorem val_zero : (0 : Fr).val = 0 := by rw [val_num]; decide +kernel
theorem val_one : (1 : Fr).val = 1 := by rw [val_num]; decide +kernel

theorem val_eq_zero {a : Fr} : a = 0 ↔ a.val = 0 := by
  constructor
  · intro h; rw [h, val_zero]
  · intro h; exact Fin.ext (by rw [h, val_zero])

theorem powm_lt (m f a e : Nat) (hm : 0 < m) : powm m f a e < m := by
  induction f generalizing a e with
  | zero => exact Nat.mod_lt _ hm
  | succ f ih =>
    unfold powm
    split
    · exact Nat.mod_lt _ hm
    · split
      · exact Nat.mod_lt _ hm
      · exact ih _ _

def finv (a : Fr) : Fr := ⟨powm R 64 a.val (R - 2), powm_lt _ _ _ _ R_pos⟩
theorem finv_val (a : Fr) : (finv a).val = a.val ^ (R - 2) % R := powm_eq R 64 a.val (R - 2) (by decide +kernel)

theorem fr_dom (a b : Fr) (h : a * b = 0) : a = 0 ∨ b = 0 := by
  rw [val_eq_zero, val_mul] at h
  refine Classical.byContradiction fun hn => ?_
  have hn := not_or.1 hn
  refine rootR.nonzero (a := a.val) (b := b.val) ?_ ?_ h
  · rw [Nat.mod_eq_of_lt a.isLt]; exact fun e => hn.1 (val_eq_zero.2 e)
  · rw [Nat.mod_eq_of_lt b.isLt]; exact fun e => hn.2 (val_eq_zero.2 e)

theorem finv_mul (a : Fr) (h : a ≠ 0) : a * finv a = 1 := by
  refine Fin.ext ?_
  rw [val_mul, finv_val, val_one, Nat.mul_mod, Nat.mod_mod, ← Nat.mul_mod, Nat.mul_comm, ← Nat.pow_succ]
  have := rootR.fermat a.val (by rw [Nat.mod_eq_of_lt a.isLt]; exact fun e => h (val_eq_zero.2 e))
  rwa [show (R - 2).succ = R - 1 by decide +kernel]

theorem d_nonsq (x : Fr) : x * x ≠ fr 439 := by
  intro h
  have h := congrArg Fin.val h
  rw [val_mul, fr_val] at h
  have := rootR.euler (by decide +kernel) 439 x.val (by decide +kernel) h
  rw [← powm_eq R 64 439 ((R - 1) / 2) (by decide +kernel)] at this
  exact absurd this (by decide +kernel)

/-- The curve. -/
def K : Ground R where
  inv := finv
  d := fr 439
  i := fr (powm R 64 3 ((R - 1) / 4))
  ne := fun h => absurd (congrArg Fin.val h) (by decide +kernel)
  two := fun h => absurd (congrArg Fin.val h) (by decide +kernel)
  dom := fr_dom
  inv_mul := finv_mul
  i2 := Fin.ext (by decide +kernel)
  nd := d_nonsq

abbrev Pt := Pnt K

end Obol
/- Points as pairs of numbers: the sum, multiples from the highest bit on, whether a pair is a point. -/
namespace Obol

/-- A thing behind a door that the kernel doesn't open. -/
noncomputable def shut {α : Type} (x : α) : { y : α // y = x } := Classical.choice ⟨⟨x, rfl⟩⟩
def mulQ (a b : Nat) : Nat := a * b % R
def addQ (a b : Nat) : Nat := (a + b) % R
def subQ (a b : Nat) : Nat := (a % R + R - b % R) % R
noncomputable def mulR : Nat → Nat → Nat := (shut mulQ).1
noncomputable def addR : Nat → Nat → Nat := (shut addQ).1
noncomputable def subR : Nat → Nat → Nat := (shut subQ).1
noncomputable def invR : Nat → Nat := (shut (fun b : Nat => b ^ (R - 2) % R)).1
theorem mulR_eq : mulR = mulQ := (shut mulQ).2
theorem addR_eq : addR = addQ := (shut addQ).2
theorem subR_eq : subR = subQ := (shut subQ).2
theorem invR_eq (b : Nat) : invR b = b ^ (R - 2) % R := congrFun (shut (fun b : Nat => b ^ (R - 2) % R)).2 b
noncomputable def overR (a b : Nat) : Nat := mulR a (invR b)

/-- A pair's point. -/
def Pnt.n (p : Pt) : Nat × Nat := (p.x.val, p.y.val)
theorem Pnt.n_inj {p q : Pt} (h : p.n = q.n) : p = q := by
  have h1 := congrArg Prod.fst h
  have h2 := congrArg Prod.snd h
  exact Pnt.ext (Fin.ext h1) (Fin.ext h2)

noncomputable def isN (p : Nat × Nat) : Bool :=
  decide (p.1 < R) && decide (p.2 < R) && decide (subR (mulR p.2 p.2) (mulR p.1 p.1) = addR 1 (mulR 439 (mulR (mulR p.1 p.1) (mulR p.2 p.2))))

def isQ (p : Nat × Nat) : Bool :=
  decide (p.1 < R) && decide (p.2 < R) && decide (subQ (mulQ p.2 p.2) (mulQ p.1 p.1) = addQ 1 (mulQ 439 (mulQ (mulQ p.1 p.1) (mulQ p.2 p.2))))
theorem isN_eq (p : Nat × Nat) : isN p = isQ p := by unfold isN isQ; rw [mulR_eq, addR_eq, subR_eq]

def zeroN : Nat × Nat := (0, 1)
theorem zero_n : (Pnt.zero : Pt).n = zeroN := by
  show ((0 : Fr).val, (1 : Fr).val) = (0, 1)
  rw [val_zero, val_one]

theorem lt_mod {a : Nat} (h : a < R) : a % R = a := Nat.mod_eq_of_lt h

/-- The field's words as numbers'. -/
theorem mulR_val (a b : Fr) : mulR a.val b.val = (a * b).val := by rw [mulR_eq]; rfl
theorem addR_val (a b : Fr) : addR a.val b.val = (a + b).val := by rw [addR_eq]; rfl
theorem subR_val (a b : Fr) : subR a.val b.val = (a - b).val := by
  rw [val_sub, subR_eq, subQ, lt_mod a.isLt, lt_mod b.isLt]
  congr 1
  have := a.isLt
  have := b.isLt
  omega
theorem d_val : K.d.val = 439 := by decide +kernel
theorem one_val : (1 : Fr).val = 1 := val_one
theorem overR_val (a b : Fr) : overR a.val b.val = (a * K.inv b).val := by
  rw [overR, invR_eq, ← finv_val]
  exact mulR_val a (finv b)

theorem on_iff (x y : Fr) : K.On x y ↔ isN (x.val, y.val) = true := by
  have e : isN (x.val, y.val) = decide ((y * y - x * x).val = (1 + K.d * (x * x * (y * y))).val) := by
    unfold isN
    rw [decide_eq_true x.isLt, decide_eq_true y.isLt, Bool.true_and, Bool.true_and]
    rw [mulR_val, mulR_val, subR_val, mulR_val, ← d_val, mulR_val]
    rw [← one_val, addR_val]
  rw [e, decide_eq_true_eq]
  unfold Ground.On
  have e2 : 1 + K.d * (x * x) * (y * y) = 1 + K.d * (x * x * (y * y)) := by grind
  rw [e2]
  exact ⟨fun h => by rw [h], fun h => Fin.ext h⟩

/-- What is a point's pair. -/
theorem isN_pt {p : Nat × Nat} (h : isN p = true) : ∃ q : Pt, q.n = p := by
  have h' := h
  unfold isN at h'
  simp only [Bool.and_eq_true, decide_eq_true_eq] at h'
  refine ⟨⟨⟨p.1, h'.1.1⟩, ⟨p.2, h'.1.2⟩, (on_iff _ _).2 h⟩, rfl⟩
theorem pt_isN (p : Pt) : isN p.n = true := (on_iff _ _).1 p.on

noncomputable def sureN (p : Nat × Nat) : Nat × Nat := if isN p then p else zeroN

noncomputable def sumN (p q : Nat × Nat) : Nat × Nat :=
  let x := mulR p.1 q.1
  let y := mulR p.2 q.2
  let k := mulR 439 (mulR x y)
  (overR (addR (mulR p.1 q.2) (mulR p.2 q.1)) (addR 1 k), overR (addR x y) (subR 1 k))

theorem sum_n (p q : Pt) : sumN p.n q.n = (p.add q).n := by
  unfold sumN Pnt.n
  simp only
  rw [mulR_val, mulR_val, mulR_val, mulR_val, mulR_val, ← d_val, mulR_val, ← one_val, addR_val, addR_val, addR_val, subR_val, overR_val, overR_val]
  unfold Pnt.add Pnt.dx Pnt.dy
  simp only
  have e1 : K.d * (p.x * q.x * (p.y * q.y)) = K.d * (p.x * q.x * p.y * q.y) := by grind
  have e2 : p.x * q.x + p.y * q.y = p.y * q.y + p.x * q.x := by grind
  rw [e1, e2]

/-- Multiples, from the highest bit on. -/
noncomputable def timesN (a : Nat × Nat) (k : Nat) : Nat → Nat × Nat → Nat × Nat
  | 0, out => out
  | j + 1, out =>
    let o := if out = zeroN then out else sumN out out
    timesN a k j (if k / 2 ^ j % 2 = 1 then sumN o a else o)

theorem sum_zero (p : Pt) : (Pnt.zero : Pt).add p = p := Pnt.zero_add p

theorem times_step (p : Pt) (k j : Nat) (o : Pt) (ho : o = Pnt.smul (k / 2 ^ (j + 1)) p) :
    (if k / 2 ^ j % 2 = 1 then sumN (if o.n = zeroN then o.n else sumN o.n o.n) p.n else (if o.n = zeroN then o.n else sumN o.n o.n)) = (Pnt.smul (k / 2 ^ j) p).n := by
  have hd : (if o.n = zeroN then o.n else sumN o.n o.n) = (o.add o).n := by
    split
    · rename_i h
      rw [← zero_n] at h
      rw [Pnt.n_inj h, sum_zero]
    · exact sum_n o o
  have hk : k / 2 ^ j = k / 2 ^ (j + 1) + k / 2 ^ (j + 1) + k / 2 ^ j % 2 := by
    have : k / 2 ^ (j + 1) = k / 2 ^ j / 2 := by rw [Nat.pow_succ, Nat.div_div_eq_div_mul]
    rw [this]
    omega
  rw [hd]
  by_cases hb : k / 2 ^ j % 2 = 1
  · rw [if_pos hb, sum_n]
    conv => rhs; rw [hk, hb, Pnt.smul_add, Pnt.smul_add, Pnt.smul_one, ← ho]
  · have : k / 2 ^ j % 2 = 0 := by omega
    rw [if_neg hb]
    conv => rhs; rw [hk, this, Nat.add_zero, Pnt.smul_add, ← ho]

theorem times_from (p : Pt) (k : Nat) : ∀ (j : Nat) (o : Pt), o = Pnt.smul (k / 2 ^ j) p → timesN p.n k j o.n = (Pnt.smul k p).n
  | 0, o, ho => by
    rw [Nat.pow_zero, Nat.div_one] at ho
    rw [timesN, ho]
  | j + 1, o, ho => by
    unfold timesN
    simp only
    rw [times_step p k j o ho]
    exact times_from p k j _ rfl

theorem times_n (p : Pt) (k : Nat) (hk : k < 2 ^ 64) : timesN p.n k 64 zeroN = (Pnt.smul k p).n := by
  rw [← zero_n]
  exact times_from p k 64 Pnt.zero (by rw [Nat.div_eq_of_lt hk]; rfl)

/-! quick ones, for the kernel -/
def sumQ (p q : Nat × Nat) : Nat × Nat :=
  let x := mulQ p.1 q.1
  let y := mulQ p.2 q.2
  let k := mulQ 439 (mulQ x y)
  (mulQ (addQ (mulQ p.1 q.2) (mulQ p.2 q.1)) (powm R 64 (addQ 1 k) (R - 2)), mulQ (addQ x y) (powm R 64 (subQ 1 k) (R - 2)))
theorem sumQ_eq (p q : Nat × Nat) : sumQ p q = sumN p q := by
  unfold sumQ sumN overR
  simp only
  rw [invR_eq, invR_eq, powm_eq R 64 _ _ (by decide +kernel), powm_eq R 64 _ _ (by decide +kernel), mulR_eq, addR_eq, subR_eq]

def timesQ (a : Nat × Nat) (k : Nat) : Nat → Nat × Nat → Nat × Nat
  | 0, out => out
  | j + 1, out => timesQ a k j (if k / 2 ^ j % 2 = 1 then sumQ (sumQ out out) a else sumQ out out)
theorem timesQ_from (p : Pt) (k : Nat) : ∀ (j : Nat) (o : Pt), o = Pnt.smul (k / 2 ^ j) p → timesQ p.n k j o.n = (Pnt.smul k p).n
  | 0, o, ho => by
    rw [Nat.pow_zero, Nat.div_one] at ho
    rw [timesQ, ho]
  | j + 1, o, ho => by
    unfold timesQ
    have h := times_step p k j o ho
    have hd : (if o.n = zeroN then o.n else sumN o.n o.n) = sumN o.n o.n := by
      split
      · rename_i e
        rw [← zero_n] at e
        rw [Pnt.n_inj e, sum_n, sum_zero]
      · rfl
    rw [hd] at h
    rw [sumQ_eq, sumQ_eq, h]
    exact timesQ_from p k j _ rfl
theorem timesQ_n (p : Pt) (k b : Nat) (hk : k < 2 ^ b) : timesQ p.n k b zeroN = (Pnt.smul k p).n := by
  rw [← zero_n]
  exact timesQ_from p k b Pnt.zero (by rw [Nat.div_eq_of_lt hk]; rfl)

/-- The sum of two points X / Z, Y / Z. -/
noncomputable def togN (a b : Nat × Nat × Nat) : Nat × Nat × Nat :=
  let z := mulR a.2.2 b.2.2
  let z2 := mulR z z
  let x := mulR a.1 b.1
  let y := mulR a.2.1 b.2.1
  let k := mulR 439 (mulR x y)
  let up := addR z2 k
  let down := subR z2 k
  let cross := addR (mulR a.1 b.2.1) (mulR a.2.1 b.1)
  (mulR (mulR z cross) down, mulR (mulR z (addR x y)) up, mulR up down)

/-- What is handed in, as a point. -/
noncomputable def Pnt.of (p : Nat × Nat) : Pt := if h : isN p = true then ⟨⟨p.1, by unfold isN at h; simp only [Bool.and_eq_true, decide_eq_true_eq] at h; exact h.1.1⟩, ⟨p.2, by unfold isN at h; simp only [Bool.and_eq_true, decide_eq_true_eq] at h; exact h.1.2⟩, (on_iff _ _).2 h⟩ else Pnt.zero
theorem sure_n (p : Nat × Nat) : sureN p = (Pnt.of p).n := by
  unfold sureN Pnt.of
  by_cases h : isN p = true
  · rw [if_pos h, dif_pos h]
    rfl
  · rw [if_neg h, dif_neg h, zero_n]
theorem of_n (p : Pt) : Pnt.of p.n = p := by
  refine Pnt.n_inj ?_
  rw [← sure_n, sureN, if_pos (pt_isN p)]

/-- Three numbers that stand for a point. -/
structure Sc (t : Nat × Nat × Nat) (p : Pt) : Prop where
  x1 : t.1 < R
  y1 : t.2.1 < R
  z1 : t.2.2 < R
  sc : Scaled (⟨t.1, x1⟩ : Fr) ⟨t.2.1, y1⟩ ⟨t.2.2, z1⟩ p

theorem mulR_lt (a b : Nat) : mulR a b < R := by rw [mulR_eq]; exact Nat.mod_lt _ R_pos
theorem Sc.tog {a b : Nat × Nat × Nat} {p q : Pt} (h : Sc a p) (h' : Sc b q) : Sc (togN a b) (p.add q) := by
  refine ⟨mulR_lt _ _, mulR_lt _ _, mulR_lt _ _, ?_⟩
  have e := h.sc.tog h'.sc
  generalize hx : (⟨a.1, h.x1⟩ : Fr) = x at e
  generalize hy : (⟨a.2.1, h.y1⟩ : Fr) = y at e
  generalize hz : (⟨a.2.2, h.z1⟩ : Fr) = z at e
  generalize hx' : (⟨b.1, h'.x1⟩ : Fr) = x' at e
  generalize hy' : (⟨b.2.1, h'.y1⟩ : Fr) = y' at e
  generalize hz' : (⟨b.2.2, h'.z1⟩ : Fr) = z' at e
  have ha : a = (x.val, y.val, z.val) := by rw [← hx, ← hy, ← hz]
  have hb : b = (x'.val, y'.val, z'.val) := by rw [← hx', ← hy', ← hz']
  have ht : togN a b = ((z * z' * (x * y' + y * x') * (z * z' * (z * z') - K.d * (x * x' * (y * y')))).val, (z * z' * (x * x' + y * y') * (z * z' * (z * z') + K.d * (x * x' * (y * y')))).val,
      ((z * z' * (z * z') + K.d * (x * x' * (y * y'))) * (z * z' * (z * z') - K.d * (x * x' * (y * y')))).val) := by
    rw [ha, hb]
    unfold togN
    simp only [mulR_val, addR_val, ← d_val, subR_val]
  have h1 := congrArg (·.1) ht
  have h2 := congrArg (·.2.1) ht
  have h3 := congrArg (·.2.2) ht
  simp only at h1 h2 h3
  simp only [h1, h2, h3]
  exact e
theorem Sc.one (p : Pt) : Sc (p.x.val, p.y.val, 1) p := ⟨p.x.isLt, p.y.isLt, (by show 1 < R; decide +kernel), by
  have h := Scaled.one p
  have e : (⟨1, by decide +kernel⟩ : Fr) = 1 := Fin.ext (by rw [val_one])
  show Scaled p.x p.y (⟨1, _⟩ : Fr) p
  rw [e]
  exact h⟩
theorem Sc.zero : Sc (0, 1, 1) Pnt.zero := by
  have h := Sc.one Pnt.zero
  have e := zero_n
  unfold Pnt.n zeroN at e
  have e1 := congrArg Prod.fst e
  have e2 := congrArg Prod.snd e
  simp only at e1 e2
  rw [e1, e2] at h
  exact h
theorem inv_val (z : Fr) : invR z.val = (K.inv z).val := by
  have h : K.inv z = finv z := rfl
  rw [invR_eq, h, finv_val]
theorem Sc.out {t : Nat × Nat × Nat} {p : Pt} (h : Sc t p) : (mulR t.1 (invR t.2.2), mulR t.2.1 (invR t.2.2)) = p.n := by
  obtain ⟨e1, e2⟩ := h.sc.out
  have hv : invR t.2.2 = _ := inv_val (⟨t.2.2, h.z1⟩ : Fr)
  have hx : mulR t.1 _ = _ := mulR_val (⟨t.1, h.x1⟩ : Fr) (K.inv (⟨t.2.2, h.z1⟩ : Fr))
  have hy : mulR t.2.1 _ = _ := mulR_val (⟨t.2.1, h.y1⟩ : Fr) (K.inv (⟨t.2.2, h.z1⟩ : Fr))
  rw [hv]
  unfold Pnt.n
  rw [← e1, ← e2, ← hx, ← hy]

/-- What is known ahead of each round of a multiple: what is gathered, what is added, how often. -/
structure MulInv (a : Pt) (k : Nat) (o b : Nat × Nat × Nat) (en : Nat) : Prop where
  ex : ∃ p q : Pt, Sc o p ∧ Sc b q ∧ p.add (Pnt.smul en q) = Pnt.smul k a
theorem MulInv.start (a : Pt) (k : Nat) : MulInv a k (0, 1, 1) (a.x.val, a.y.val, 1) k := ⟨Pnt.zero, a, Sc.zero, Sc.one a, Pnt.zero_add _⟩
theorem smul_half (en : Nat) (q : Pt) : Pnt.smul en q = (Pnt.smul (en % 2) q).add (Pnt.smul (en / 2) (q.add q)) := by
  have h : q.add q = Pnt.smul 2 q := by
    show _ = (Pnt.smul 1 q).add q
    rw [Pnt.smul_one]
  rw [h, ← Pnt.smul_mul, ← Pnt.smul_add]
  congr 1
  omega
theorem MulInv.one {a : Pt} {k : Nat} {o b : Nat × Nat × Nat} {en : Nat} (h : MulInv a k o b en) (ho : en % 2 = 1) : MulInv a k (togN o b) (togN b b) (en / 2) := by
  obtain ⟨p, q, hp, hq, e⟩ := h.ex
  refine ⟨p.add q, q.add q, hp.tog hq, hq.tog hq, ?_⟩
  rw [smul_half, ho, Pnt.smul_one, ← Pnt.add_assoc] at e
  exact e
theorem MulInv.zero {a : Pt} {k : Nat} {o b : Nat × Nat × Nat} {en : Nat} (h : MulInv a k o b en) (ho : en % 2 = 0) : MulInv a k o (togN b b) (en / 2) := by
  obtain ⟨p, q, hp, hq, e⟩ := h.ex
  refine ⟨p, q.add q, hp, hq.tog hq, ?_⟩
  rw [smul_half, ho] at e
  have e : p.add (Pnt.zero.add (Pnt.smul (en / 2) (q.add q))) = Pnt.smul k a := e
  rwa [Pnt.zero_add] at e
theorem MulInv.done {a : Pt} {k : Nat} {o b : Nat × Nat × Nat} (h : MulInv a k o b 0) : (mulR o.1 (invR o.2.2), mulR o.2.1 (invR o.2.2)) = (Pnt.smul k a).n := by
  obtain ⟨p, q, hp, hq, e⟩ := h.ex
  have e : p.add Pnt.zero = Pnt.smul k a := e
  rw [Pnt.add_zero] at e
  rw [← e]
  exact hp.out

/-- So often whatever. -/
noncomputable def smulN : Nat × Nat → Nat → Nat × Nat := (shut fun (p : Nat × Nat) (k : Nat) => (Pnt.smul k (Pnt.of p)).n).1
theorem smulN_eq (p : Nat × Nat) (k : Nat) : smulN p k = (Pnt.smul k (Pnt.of p)).n := congrFun (congrFun (shut fun (p : Nat × Nat) (k : Nat) => (Pnt.smul k (Pnt.of p)).n).2 p) k

end Obol
/- Walks: package edwards: what is reckoned with numbers; whether a pair is a point. -/
namespace Go.Proofs.YtkfimfjjmdjbdaaGreatDoor
open Go.RowKit

abbrev edV (X Y : Int) : Value := .agg #[.int .u64 X, .int .u64 Y]

theorem RAdd (a b : Int) (ha : 0 ≤ a) (hb : 0 ≤ b) (w : World) :
    Calls Tryz.prog 88 #[.int .u64 288230376287764481, .int .u64 a, .int .u64 b] w fun e w' => e = .returned (.int .u64 ((Obol.addR a.toNat b.toNat : Nat) : Int)) ∧ ∃ n, w' = w.drewN n :=
  by rw [Obol.addR_eq]; exact mAdd _ a b (by omega) (by omega) ha hb w
theorem RSub (a b : Int) (ha : 0 ≤ a) (hb : 0 ≤ b) (w : World) :
    Calls Tryz.prog 89 #[.int .u64 288230376287764481, .int .u64 a, .int .u64 b] w fun e w' => e = .returned (.int .u64 ((Obol.subR a.toNat b.toNat : Nat) : Int)) ∧ ∃ n, w' = w.drewN n :=
  by rw [Obol.subR_eq]; exact mSub _ a b (by omega) (by omega) ha hb w
theorem RMul (a b : Int) (ha : 0 ≤ a) (hb : 0 ≤ b) (w : World) :
    Calls Tryz.prog 91 #[.int .u64 288230376287764481, .int .u64 a, .int .u64 b] w fun e w' => e = .returned (.int .u64 ((Obol.mulR a.toNat b.toNat : Nat) : Int)) ∧ ∃ n, w' = w.drewN n :=
  by rw [Obol.mulR_eq]; exact mMul _ a b (by omega) (by omega) ha hb w

theorem eMul (a b : Int) (ha : 0 ≤ a) (hb : 0 ≤ b) (w : World) :
    Calls Tryz.prog 66 #[.int .u64 a, .int .u64 b] w fun e w' => e = .returned (.int .u64 ((Obol.mulR a.toNat b.toNat : Nat) : Int)) ∧ ∃ n, w' = w.drewN n := by
  go_enter Tryz.func66, Tryz.ntmps66
  go_wp2_with (go_at_call 91; refine (RMul _ _ ha hb _).mono ?_; rintro e w' ⟨rfl, n, rfl⟩)
  go_ret
  exact ⟨rfl, _, rfl⟩

theorem litR : (288230376287764481 : Int).toNat = Obol.R := by decide +kernel
theorem litR2 : (288230376287764479 : Int).toNat = Obol.R - 2 := by decide +kernel
theorem RPow2 (b : Int) (hb : 0 ≤ b) (w : World) :
    Calls Tryz.prog 65 #[.int .u64 288230376287764481, .int .u64 b, .int .u64 288230376287764479] w fun e w' => e = .returned (.int .u64 ((Obol.invR b.toNat : Nat) : Int)) ∧ ∃ n, w' = w.drewN n := by
  have h := mPow 288230376287764481 b 288230376287764479 (by omega) (by omega) hb (by omega) (by omega) w
  rw [litR, litR2] at h
  rw [Obol.powM, ← Obol.invR_eq] at h
  exact h

theorem eOver (a b : Int) (ha : 0 ≤ a) (hb : 0 ≤ b) (w : World) :
    Calls Tryz.prog 93 #[.int .u64 a, .int .u64 b] w fun e w' => e = .returned (.int .u64 ((Obol.overR a.toNat b.toNat : Nat) : Int)) ∧ ∃ n, w' = w.drewN n := by
  go_enter Tryz.func93, Tryz.ntmps93
  go_wp2_with (first | (go_at_call 65; refine (RPow2 _ hb _).mono ?_; rintro e w' ⟨rfl, n, rfl⟩) | (go_at_call 66; refine (eMul _ _ ha (by omega) _).mono ?_; rintro e w' ⟨rfl, n', rfl⟩))
  go_ret
  refine ⟨?_, _, rfl⟩
  show Ending.returned (.int .u64 ((Obol.mulR a.toNat (Obol.invR b.toNat) : Nat) : Int)) = _
  rw [Obol.overR]

theorem isN_far1 {x y : Nat} (h : 288230376287764481 ≤ x) : Obol.isN (x, y) = false := by
  unfold Obol.isN
  rw [decide_eq_false (show ¬ x < Obol.R by rw [Obol.R_def]; omega)]
  rfl
theorem isN_far2 {x y : Nat} (h : 288230376287764481 ≤ y) : Obol.isN (x, y) = false := by
  unfold Obol.isN
  rw [decide_eq_false (show ¬ y < Obol.R by rw [Obol.R_def]; omega), Bool.and_false, Bool.false_and]
theorem isN_near {x y : Nat} (h1 : x < 288230376287764481) (h2 : y < 288230376287764481) :
    Obol.isN (x, y) = (((Obol.subR (Obol.mulR y y) (Obol.mulR x x) : Nat) : Int) == ((Obol.addR 1 (Obol.mulR 439 (Obol.mulR (Obol.mulR x x) (Obol.mulR y y))) : Nat) : Int)) := by
  unfold Obol.isN
  rw [decide_eq_true (show x < Obol.R by rw [Obol.R_def]; omega), decide_eq_true (show y < Obol.R by rw [Obol.R_def]; omega), Bool.true_and, Bool.true_and, Bool.eq_iff_iff, decide_eq_true_eq, beq_iff_eq, Int.ofNat_inj]

theorem eIs (X Y : Int) (hX : 0 ≤ X) (hY : 0 ≤ Y) (w : World) :
    Calls Tryz.prog 67 #[edV X Y] w fun e w' => e = .returned (.bool (Obol.isN (X.toNat, Y.toNat))) ∧ Below w.heap.size w w' := by
  by_cases h1 : (288230376287764481 : Int) ≤ X
  · have hr := Lib.hid (isN_far1 (x := X.toNat) (y := Y.toNat) (by omega))
    go_enter Tryz.func67, Tryz.ntmps67
    go_wp2_with fail
    go_ret
    exact ⟨by rw [hr.out]; rfl, by repeat (first | exact Below.refl _ _ | assumption | apply bDrewN | apply bDrew | apply bAlloc | refine bSet ?_ (by omega) | refine bThen ?_ (by assumption) (by simp <;> omega))⟩
  · by_cases h2 : (288230376287764481 : Int) ≤ Y
    · have hr := Lib.hid (isN_far2 (x := X.toNat) (y := Y.toNat) (by omega))
      go_enter Tryz.func67, Tryz.ntmps67
      go_wp2_with fail
      go_ret
      exact ⟨by rw [hr.out]; rfl, by repeat (first | exact Below.refl _ _ | assumption | apply bDrewN | apply bDrew | apply bAlloc | refine bSet ?_ (by omega) | refine bThen ?_ (by assumption) (by simp <;> omega))⟩
    · have hr := Lib.hid (isN_near (x := X.toNat) (y := Y.toNat) (by omega) (by omega))
      go_enter Tryz.func67, Tryz.ntmps67
      go_wp2_with fail
      go_quiet ((go_at_call 66; exact Calls.quiet_of (eMul _ _ (by omega) (by omega) _)))
      go_wp2_with (first | (go_at_call 66; refine (eMul _ _ (by omega) (by omega) _).mono ?_; rintro e w' ⟨rfl, n, rfl⟩) | (go_at_call 88; refine (RAdd _ _ (by omega) (by omega) _).mono ?_; rintro e w' ⟨rfl, n, rfl⟩) | (go_at_call 89; refine (RSub _ _ (by omega) (by omega) _).mono ?_; rintro e w' ⟨rfl, n, rfl⟩))
      go_ret
      exact ⟨by rw [hr.out]; rfl, by repeat (first | exact Below.refl _ _ | assumption | apply bDrewN | apply bDrew | apply bAlloc | refine bSet ?_ (by omega) | refine bThen ?_ (by assumption) (by simp <;> omega))⟩

/-- A result that lies in a new variable. -/
theorem eZero (w : World) :
    Calls Tryz.prog 68 #[] w fun e w' => e = .returned (edV 0 1) ∧ Below w.heap.size w w' := by
  go_enter Tryz.func68, Tryz.ntmps68
  go_wp2_with fail
  refine bodyPost_ret (v := edV 0 1) (by simp [results, Tryz.results68, go_sem]) rfl ⟨rfl, ?_⟩
  repeat (first | exact Below.refl _ _ | apply bDrewN | apply bAlloc)

theorem eSum (X Y X' Y' : Int) (hX : 0 ≤ X) (hY : 0 ≤ Y) (hX' : 0 ≤ X') (hY' : 0 ≤ Y') (w : World) :
    Calls Tryz.prog 71 #[edV X Y, edV X' Y'] w fun e w' =>
      e = .returned (edV ((Obol.sumN (X.toNat, Y.toNat) (X'.toNat, Y'.toNat)).1 : Nat) ((Obol.sumN (X.toNat, Y.toNat) (X'.toNat, Y'.toNat)).2 : Nat)) ∧ Below w.heap.size w w' := by
  go_enter Tryz.func71, Tryz.ntmps71
  go_wp2_with fail
  go_quiet ((first | (go_at_call 66; first | (refine Calls.quiet_of (eMul _ _ ?_ ?_ _) <;> omega) | (refine quiet_add (eMul _ _ ?_ ?_ _) <;> omega))))
  go_wp2_with (first | (go_at_call 66; refine (eMul _ _ (by omega) (by omega) _).mono ?_; rintro e w' ⟨rfl, n, rfl⟩))
  go_quiet ((first | (go_at_call 66; first | (refine Calls.quiet_of (eMul _ _ ?_ ?_ _) <;> omega) | (refine quiet_add (eMul _ _ ?_ ?_ _) <;> omega)) | (go_at_call 88; first | (refine Calls.quiet_of (RAdd _ _ ?_ ?_ _) <;> omega) | (refine quiet_add (RAdd _ _ ?_ ?_ _) <;> omega))))
  go_wp2_with (first | (go_at_call 93; refine (eOver _ _ (by omega) (by omega) _).mono ?_; rintro e w' ⟨rfl, n, rfl⟩) | (go_at_call 88; refine (RAdd _ _ (by omega) (by omega) _).mono ?_; rintro e w' ⟨rfl, n, rfl⟩) | (go_at_call 89; refine (RSub _ _ (by omega) (by omega) _).mono ?_; rintro e w' ⟨rfl, n, rfl⟩))
  refine bodyPost_ret (v := edV _ _) (by simp [results, Tryz.results71, go_sem]; exact ⟨rfl, rfl⟩) rfl ⟨?_, ?_⟩
  · rfl
  · repeat (first | exact Below.refl _ _ | assumption | apply bDrewN | apply bDrew | apply bAlloc | refine bSet ?_ (by omega) | refine bThen ?_ (by assumption) (by simp <;> omega))

theorem eSure (X Y : Int) (hX : 0 ≤ X) (hY : 0 ≤ Y) (w : World) :
    Calls Tryz.prog 63 #[edV X Y] w fun e w' => e = .returned (edV ((Obol.sureN (X.toNat, Y.toNat)).1 : Nat) ((Obol.sureN (X.toNat, Y.toNat)).2 : Nat)) ∧ Below w.heap.size w w' := by
  by_cases hi : Obol.isN (X.toNat, Y.toNat) = true
  · have hI := Lib.hid hi
    have hR : Hid (Ending.returned (edV X Y) = .returned (edV ((Obol.sureN (X.toNat, Y.toNat)).1 : Nat) ((Obol.sureN (X.toNat, Y.toNat)).2 : Nat))) := by
      show _ = _
      rw [Obol.sureN, if_pos hi, Int.toNat_of_nonneg hX, Int.toNat_of_nonneg hY]
    clear hi
    go_enter Tryz.func63, Tryz.ntmps63
    go_wp2_with (go_at_call 67; refine (eIs _ _ (by omega) (by omega) _).mono ?_; rintro e w1 ⟨rfl, hb⟩; rw [hI.out]; obtain ⟨hc, hf⟩ := bcell hb; have hz := hb.size; (try simp at hz))
    refine bodyPost_ret (v := edV X Y) (by simp [results, Tryz.results63, go_sem, hc]) rfl ⟨hR.out, ?_⟩
    repeat (first | exact Below.refl _ _ | assumption | apply bDrewN | apply bDrew | apply bAlloc | refine bSet ?_ (by omega) | refine bThen ?_ (by assumption) (by simp <;> omega))
  · have hI := Lib.hid (Bool.eq_false_iff.2 hi)
    have hR : Hid (Ending.returned (edV 0 1) = .returned (edV ((Obol.sureN (X.toNat, Y.toNat)).1 : Nat) ((Obol.sureN (X.toNat, Y.toNat)).2 : Nat))) := by
      show _ = _
      rw [Obol.sureN, if_neg hi]
      rfl
    clear hi
    go_enter Tryz.func63, Tryz.ntmps63
    go_wp2_with (first | (go_at_call 67; refine (eIs _ _ (by omega) (by omega) _).mono ?_; rintro e w1 ⟨rfl, hb⟩; rw [hI.out]; obtain ⟨hc, hf⟩ := bcell hb; have hz := hb.size; (try simp at hz)) | (go_at_call 68; refine (eZero _).mono ?_; rintro e w2 ⟨rfl, hb2⟩; replace hb := bThen hb hb2 hb.size; clear hb2; obtain ⟨hc2, hf2⟩ := bcell hb; have hz2 := hb.size; (try simp at hz2)))
    refine bodyPost_ret (v := edV 0 1) (by simp [results, Tryz.results63, go_sem, hc2]) rfl ⟨hR.out, ?_⟩
    repeat (first | exact Below.refl _ _ | assumption | apply bDrewN | apply bDrew | apply bAlloc | refine bSet ?_ (by omega) | refine bThen ?_ (by assumption) (by simp <;> omega))

end Go.Proofs.YtkfimfjjmdjbdaaGreatDoor
/- Walks: package edwards: sums of whatever, opposites. -/
namespace Go.Proofs.YtkfimfjjmdjbdaaGreatDoor
open Go.RowKit

set_option maxHeartbeats 1000000 in
theorem eAdd (X Y X' Y' : Int) (hX : 0 ≤ X) (hY : 0 ≤ Y) (hX' : 0 ≤ X') (hY' : 0 ≤ Y') (w : World) :
    Calls Tryz.prog 36 #[edV X Y, edV X' Y'] w fun e w' =>
      e = .returned (edV ((Obol.sumN (Obol.sureN (X.toNat, Y.toNat)) (Obol.sureN (X'.toNat, Y'.toNat))).1 : Nat) ((Obol.sumN (Obol.sureN (X.toNat, Y.toNat)) (Obol.sureN (X'.toNat, Y'.toNat))).2 : Nat)) ∧ Below w.heap.size w w' := by
  go_enter Tryz.func36, Tryz.ntmps36
  go_wp2_with fail
  go_region_with (first | (go_at_call 71; refine (eSum _ _ _ _ (by omega) (by omega) (by omega) (by omega) _).mono ?_; rintro e w3 ⟨rfl, hb3⟩; replace hb := bThen hb hb3 hb.size; clear hb3; obtain ⟨hc3, hf3⟩ := bcell hb; have hz3 := hb.size; (try simp at hz3)) | (go_at_call_of 63 (Value.agg #[Value.int IntKind.u64 X, Value.int IntKind.u64 Y]); refine (eSure _ _ (by omega) (by omega) _).mono ?_; rintro e w1 ⟨rfl, hb⟩; obtain ⟨hc, hf⟩ := bcell hb; have hz := hb.size; (try simp at hz)) | (go_at_call_of 63 (Value.agg #[Value.int IntKind.u64 X', Value.int IntKind.u64 Y']); refine (eSure _ _ (by omega) (by omega) _).mono ?_; rintro e w2 ⟨rfl, hb2⟩; replace hb := bThen hb hb2 hb.size; clear hb2; obtain ⟨hc2, hf2⟩ := bcell hb; have hz2 := hb.size; (try simp at hz2)))
  all_goals
    go_wp2
    refine bodyPost_ret (v := edV _ _) (by simp [results, Tryz.results36, go_sem, hc3]) rfl ⟨rfl, ?_⟩
    repeat (first | exact Below.refl _ _ | assumption | apply bDrewN | apply bDrew | apply bAlloc | refine bSet ?_ (by omega) | refine bThen ?_ (by assumption) (by simp <;> omega))

abbrev scV (X Y Z : Int) : Value := .agg #[.int .u64 X, .int .u64 Y, .int .u64 Z]

theorem eTogether (X Y Z X' Y' Z' : Int) (hX : 0 ≤ X) (hY : 0 ≤ Y) (hZ : 0 ≤ Z) (hX' : 0 ≤ X') (hY' : 0 ≤ Y') (hZ' : 0 ≤ Z') (w : World) :
    Calls Tryz.prog 64 #[scV X Y Z, scV X' Y' Z'] w fun e w' =>
      e = .returned (scV (Obol.togN (X.toNat, Y.toNat, Z.toNat) (X'.toNat, Y'.toNat, Z'.toNat)).1 (Obol.togN (X.toNat, Y.toNat, Z.toNat) (X'.toNat, Y'.toNat, Z'.toNat)).2.1 (Obol.togN (X.toNat, Y.toNat, Z.toNat) (X'.toNat, Y'.toNat, Z'.toNat)).2.2) ∧ Below w.heap.size w w' := by
  go_enter Tryz.func64, Tryz.ntmps64
  go_wp2_with (first | (go_at_call 66; refine (eMul _ _ (by omega) (by omega) _).mono ?_; rintro e w' ⟨rfl, n, rfl⟩))
  go_quiet ((first | (go_at_call 66; first | (refine Calls.quiet_of (eMul _ _ ?_ ?_ _) <;> omega) | (refine quiet_add (eMul _ _ ?_ ?_ _) <;> omega))))
  go_wp2_with (first | (go_at_call 66; refine (eMul _ _ (by omega) (by omega) _).mono ?_; rintro e w' ⟨rfl, n, rfl⟩) | (go_at_call 88; refine (RAdd _ _ (by omega) (by omega) _).mono ?_; rintro e w' ⟨rfl, n, rfl⟩) | (go_at_call 89; refine (RSub _ _ (by omega) (by omega) _).mono ?_; rintro e w' ⟨rfl, n, rfl⟩))
  go_quiet ((first | (go_at_call 66; first | (refine Calls.quiet_of (eMul _ _ ?_ ?_ _) <;> omega) | (refine quiet_add (eMul _ _ ?_ ?_ _) <;> omega)) | (go_at_call 88; first | (refine Calls.quiet_of (RAdd _ _ ?_ ?_ _) <;> omega) | (refine quiet_add (RAdd _ _ ?_ ?_ _) <;> omega))))
  go_wp2_with (first | (go_at_call 66; refine (eMul _ _ (by omega) (by omega) _).mono ?_; rintro e w' ⟨rfl, n, rfl⟩) | (go_at_call 88; refine (RAdd _ _ (by omega) (by omega) _).mono ?_; rintro e w' ⟨rfl, n, rfl⟩) | (go_at_call 89; refine (RSub _ _ (by omega) (by omega) _).mono ?_; rintro e w' ⟨rfl, n, rfl⟩))
  refine bodyPost_ret (v := scV _ _ _) (by simp [results, Tryz.results64, go_sem]; exact ⟨rfl, rfl, rfl⟩) rfl ⟨rfl, ?_⟩
  repeat (first | exact Below.refl _ _ | assumption | apply bDrewN | apply bDrew | apply bAlloc | refine bSet ?_ (by omega) | refine bThen ?_ (by assumption) (by simp <;> omega))

end Go.Proofs.YtkfimfjjmdjbdaaGreatDoor
/- Walks: package edwards: multiples. -/
namespace Go.Proofs.YtkfimfjjmdjbdaaGreatDoor
open Go.RowKit

structure MulI (A : Obol.Pt) (K : Nat) (ox oy oz bx by' bz en : Int) : Prop where
  o1 : 0 ≤ ox
  o2 : 0 ≤ oy
  o3 : 0 ≤ oz
  b1 : 0 ≤ bx
  b2 : 0 ≤ by'
  b3 : 0 ≤ bz
  e0 : 0 ≤ en
  e1 : en ≤ 18446744073709551615
  inv : Obol.MulInv A K (ox.toNat, oy.toNat, oz.toNat) (bx.toNat, by'.toNat, bz.toNat) en.toNat

abbrev t1 (t : Nat × Nat × Nat) : Int := (t.1 : Nat)
abbrev t2 (t : Nat × Nat × Nat) : Int := (t.2.1 : Nat)
abbrev t3 (t : Nat × Nat × Nat) : Int := (t.2.2 : Nat)

theorem MulI.one {A : Obol.Pt} {K : Nat} {ox oy oz bx by' bz en : Int} (h : MulI A K ox oy oz bx by' bz en) (ho : en % 2 = 1) :
    MulI A K ((Obol.togN (ox.toNat, oy.toNat, oz.toNat) (bx.toNat, by'.toNat, bz.toNat)).1 : Nat) ((Obol.togN (ox.toNat, oy.toNat, oz.toNat) (bx.toNat, by'.toNat, bz.toNat)).2.1 : Nat)
      ((Obol.togN (ox.toNat, oy.toNat, oz.toNat) (bx.toNat, by'.toNat, bz.toNat)).2.2 : Nat) ((Obol.togN (bx.toNat, by'.toNat, bz.toNat) (bx.toNat, by'.toNat, bz.toNat)).1 : Nat)
      ((Obol.togN (bx.toNat, by'.toNat, bz.toNat) (bx.toNat, by'.toNat, bz.toNat)).2.1 : Nat) ((Obol.togN (bx.toNat, by'.toNat, bz.toNat) (bx.toNat, by'.toNat, bz.toNat)).2.2 : Nat) (en / 2) := by
  have h0 := h.e0
  have h1 := h.e1
  refine ⟨by omega, by omega, by omega, by omega, by omega, by omega, by omega, by omega, ?_⟩
  have := h.inv.one (by omega)
  rw [Int.toNat_natCast, Int.toNat_natCast, Int.toNat_natCast, Int.toNat_natCast, Int.toNat_natCast, Int.toNat_natCast, show (en / 2).toNat = en.toNat / 2 by omega]
  exact this
theorem MulI.zero {A : Obol.Pt} {K : Nat} {ox oy oz bx by' bz en : Int} (h : MulI A K ox oy oz bx by' bz en) (ho : en % 2 = 0) :
    MulI A K ox oy oz ((Obol.togN (bx.toNat, by'.toNat, bz.toNat) (bx.toNat, by'.toNat, bz.toNat)).1 : Nat)
      ((Obol.togN (bx.toNat, by'.toNat, bz.toNat) (bx.toNat, by'.toNat, bz.toNat)).2.1 : Nat) ((Obol.togN (bx.toNat, by'.toNat, bz.toNat) (bx.toNat, by'.toNat, bz.toNat)).2.2 : Nat) (en / 2) := by
  have h0 := h.e0
  have h1 := h.e1
  refine ⟨h.o1, h.o2, h.o3, by omega, by omega, by omega, by omega, by omega, ?_⟩
  have := h.inv.zero (by omega)
  rw [Int.toNat_natCast, Int.toNat_natCast, Int.toNat_natCast, show (en / 2).toNat = en.toNat / 2 by omega]
  exact this

set_option maxHeartbeats 2000000 in
theorem eMulK (X Y k : Int) (hX : 0 ≤ X) (hY : 0 ≤ Y) (hk : 0 ≤ k) (hk1 : k ≤ 18446744073709551615) (w : World) :
    Calls Tryz.prog 32 #[edV X Y, .int .u64 k] w fun e w' =>
      e = .returned (edV ((Obol.smulN (X.toNat, Y.toNat) k.toNat).1 : Nat) ((Obol.smulN (X.toNat, Y.toNat) k.toNat).2 : Nat)) ∧ Below w.heap.size w w' := by
  go_enter Tryz.func32, Tryz.ntmps32
  go_wp2_with fail
  refine (eSure _ _ (by omega) (by omega) _).mono ?_
  rintro e w1 ⟨rfl, hb⟩
  obtain ⟨hc, hf⟩ := bcell hb; have hz := hb.size; (try simp at hz)
  have R0 : Row w1 w.heap.size #[.int .u64 X, .int .u64 Y] 24 := ((Row.new _ _ _).alloc _).below hb (by simp; omega)
  have R1 : Row w1 (w.heap.size + 1) #[.int .u64 0, .int .u64 0] 24 := by have h := Row.new (w.alloc (.cells #[.int .u64 X, .int .u64 Y] 24)) #[.int .u64 0, .int .u64 0] 24; rw [World.size_alloc] at h; exact h.below hb (by simp)
  have hb1 : Below w.heap.size w w1 := by repeat (first | exact Below.refl _ _ | assumption | apply bDrewN | apply bDrew | apply bAlloc | refine bSet ?_ (by omega) | refine bThen ?_ (by assumption) (by simp <;> omega))
  have g0 := R0.cell 0 rfl
  have g1 := R0.cell 1 rfl
  have f0 := R0.free 0
  have f1 := R0.free 1
  clear hc hf hb
  go_upto_region 2 with (fail)
  obtain ⟨sx, hsx⟩ : ∃ z : Int, z = ((Obol.sureN (X.toNat, Y.toNat)).1 : Nat) := ⟨_, rfl⟩
  obtain ⟨sy, hsy⟩ : ∃ z : Int, z = ((Obol.sureN (X.toNat, Y.toNat)).2 : Nat) := ⟨_, rfl⟩
  rw [← hsx, ← hsy]
  replace hsx := Lib.hid hsx
  replace hsy := Lib.hid hsy
  replace R0 := R0.set2 (v0 := .int .u64 sx) (v1 := .int .u64 sy)
  replace R1 := (R1.other (v := .int .u64 sx) (c := w.heap.size) (o := 0) (by omega)).other (v := .int .u64 sy) (c := w.heap.size) (o := 1) (by omega)
  replace hb1 : Below w.heap.size w ((w1.setCell ⟨w.heap.size, 0, none⟩ (.int .u64 sx)).setCell ⟨w.heap.size, 1, none⟩ (.int .u64 sy)) := bSet (bSet hb1 (by omega)) (by omega)
  clear hz g0 g1 f0 f1
  generalize hw2 : (w1.setCell ⟨w.heap.size, 0, none⟩ (.int .u64 sx)).setCell ⟨w.heap.size, 1, none⟩ (.int .u64 sy) = w2
  rw [hw2] at R0 R1 hb1
  clear hw2
  have g0 := R0.cell 0 rfl
  have g1 := R0.cell 1 rfl
  have hz := R1.lt
  have hz0 := R0.lt
  go_cut [5, 6] (fun v5 v6 wc => ∃ a b : Nat, v5 = .pointer (some ⟨a, 0, none⟩) ∧ v6 = .pointer (some ⟨b, 0, none⟩) ∧ a ≠ b ∧ w.heap.size + 1 < a ∧ w.heap.size + 1 < b ∧ Below w.heap.size w wc ∧
    Row wc a #[.int .u64 0, .int .u64 1, .int .u64 1] 104 ∧ Row wc b #[.int .u64 sx, .int .u64 sy, .int .u64 1] 104 ∧ Row wc (w.heap.size + 1) #[.int .u64 0, .int .u64 0] 24)
  case first =>
    go_region
    all_goals (go_wp2_with fail; go_meet)
    · exact ⟨_, _, rfl, rfl, by omega, by omega, by omega, bDrew (bAlloc (bAlloc hb1 _) _), ((Row.new _ _ _).alloc _).drew, (Row.new1 _ _ _ _).drew, ((R1.alloc _).alloc _).drew⟩
    · exact ⟨_, _, rfl, rfl, by omega, by omega, by omega, bDrew (bAlloc (bAlloc hb1 _) _), (Row.new1 _ _ _ _).drew, ((Row.new _ _ _).alloc _).drew, ((R1.alloc _).alloc _).drew⟩
  case rest =>
    obtain ⟨a, b, rfl, rfl, hab, ha, hbb, hbc, Ra, Rb, Rr⟩ := hcut
    have I0 : Hid (MulI (Obol.Pnt.of (X.toNat, Y.toNat)) k.toNat 0 1 1 sx sy 1 k) := by
      have e1 := hsx.out
      have e2 := hsy.out
      have hn := Obol.sure_n (X.toNat, Y.toNat)
      rw [hn] at e1 e2
      refine ⟨by omega, by omega, by omega, by omega, by omega, by omega, hk, hk1, ?_⟩
      rw [e1, e2, Int.toNat_natCast, Int.toNat_natCast]
      exact Obol.MulInv.start _ _
    go_wp2_with fail
    go_loopw [1] (fun e wr => ∃ ox oy oz bx by' bz en : Int, e = .int .u64 en ∧ Row wr a #[.int .u64 ox, .int .u64 oy, .int .u64 oz] 104 ∧ Row wr b #[.int .u64 bx, .int .u64 by', .int .u64 bz] 104 ∧
      Row wr (w.heap.size + 1) #[.int .u64 0, .int .u64 0] 24 ∧ Below w.heap.size w wr ∧ Hid (MulI (Obol.Pnt.of (X.toNat, Y.toNat)) k.toNat ox oy oz bx by' bz en)) (fun e _ => (intOf e).toNat)
    case atStart => exact ⟨0, 1, 1, sx, sy, 1, k, rfl, Ra, Rb, Rr, hbc, I0⟩
    case round =>
      have hba : b ≠ a := fun e => hab e.symm
      have hra : w.heap.size + 1 ≠ a := by omega
      have hrb : w.heap.size + 1 ≠ b := by omega
      clear Ra Rb Rr hbc I0 R0 R1 hb1 g0 g1 hz hz0
      obtain ⟨ox, oy, oz, bx, by', bz, en, rfl, Ra, Rb, Rr, hbc, HI⟩ := hrel
      have i1 := HI.out.o1
      have i2 := HI.out.o2
      have i3 := HI.out.o3
      have i4 := HI.out.b1
      have i5 := HI.out.b2
      have i6 := HI.out.b3
      have j3 := HI.out.e0
      have j4 := HI.out.e1
      have ea := and_one_u64 en j3 j4
      have a0 := Ra.cell 0 rfl
      have a1 := Ra.cell 1 rfl
      have a2 := Ra.cell 2 rfl
      have b0 := Rb.cell 0 rfl
      have b1 := Rb.cell 1 rfl
      have b2 := Rb.cell 2 rfl
      by_cases hp : 0 < en
      · by_cases ho : en % 2 = 1
        · have HN := Lib.hid (HI.out.one ho)
          go_wp2_with fail
          refine (eTogether _ _ _ _ _ _ i1 i2 i3 i4 i5 i6 _).mono ?_
          rintro e w3 ⟨rfl, hb3⟩
          replace hbc := bThen hbc hb3 hbc.size
          replace Rb := Rb.below hb3 Rb.lt
          replace Rr := Rr.below hb3 Rr.lt
          replace Ra := Ra.below hb3 Ra.lt
          clear a0 a1 a2 b0 b1 b2 hb3
          have a0 := Ra.cell 0 rfl
          have a1 := Ra.cell 1 rfl
          have a2 := Ra.cell 2 rfl
          have b0 := Rb.cell 0 rfl
          have b1 := Rb.cell 1 rfl
          have b2 := Rb.cell 2 rfl
          have f0 := Ra.free 0
          have f1 := Ra.free 1
          have f2 := Ra.free 2
          go_wp2_with fail
          refine (eTogether _ _ _ _ _ _ i4 i5 i6 i4 i5 i6 _).mono ?_
          rintro e w4 ⟨rfl, hb4⟩
          replace hbc := bThen (bSet (bSet (bSet hbc (b := a) (by omega)) (b := a) (by omega)) (b := a) (by omega)) hb4 (bSet (bSet (bSet hbc (b := a) (by omega)) (b := a) (by omega)) (b := a) (by omega)).size
          replace Rb := (((Rb.other hba).other hba).other hba).below hb4 (((Rb.other hba).other hba).other hba).lt
          replace Rr := (((Rr.other hra).other hra).other hra).below hb4 (((Rr.other hra).other hra).other hra).lt
          replace Ra := Ra.set3.below hb4 Ra.set3.lt
          clear a0 a1 a2 b0 b1 b2 hb4 f0 f1 f2
          have a0 := Ra.cell 0 rfl
          have a1 := Ra.cell 1 rfl
          have a2 := Ra.cell 2 rfl
          have b0 := Rb.cell 0 rfl
          have b1 := Rb.cell 1 rfl
          have b2 := Rb.cell 2 rfl
          have f0 := Rb.free 0
          have f1 := Rb.free 1
          have f2 := Rb.free 2
          go_wp2_with fail
          go_roundw
          case rel => exact ⟨_, _, _, _, _, _, _, rfl, ((Ra.other hab).other hab).other hab, Rb.set3, ((Rr.other hrb).other hrb).other hrb, bSet (bSet (bSet hbc (by omega)) (by omega)) (by omega), HN⟩
          case measure => simp [intOf]; omega
        · have ho' : en % 2 = 0 := by omega
          have HN := Lib.hid (HI.out.zero ho')
          clear ho
          go_wp2_with fail
          refine (eTogether _ _ _ _ _ _ i4 i5 i6 i4 i5 i6 _).mono ?_
          rintro e w4 ⟨rfl, hb4⟩
          replace hbc := bThen hbc hb4 hbc.size
          replace Rb := Rb.below hb4 Rb.lt
          replace Rr := Rr.below hb4 Rr.lt
          replace Ra := Ra.below hb4 Ra.lt
          clear a0 a1 a2 b0 b1 b2 hb4
          have a0 := Ra.cell 0 rfl
          have a1 := Ra.cell 1 rfl
          have a2 := Ra.cell 2 rfl
          have b0 := Rb.cell 0 rfl
          have b1 := Rb.cell 1 rfl
          have b2 := Rb.cell 2 rfl
          have f0 := Rb.free 0
          have f1 := Rb.free 1
          have f2 := Rb.free 2
          go_wp2_with fail
          go_roundw
          case rel => exact ⟨_, _, _, _, _, _, _, rfl, ((Ra.other hab).other hab).other hab, Rb.set3, ((Rr.other hrb).other hrb).other hrb, bSet (bSet (bSet hbc (by omega)) (by omega)) (by omega), HN⟩
          case measure => simp [intOf]; omega
      · have HD : Hid ((Obol.mulR ox.toNat (Obol.invR oz.toNat), Obol.mulR oy.toNat (Obol.invR oz.toNat)) = Obol.smulN (X.toNat, Y.toNat) k.toNat) := by
          have h := HI.out.inv
          rw [show en.toNat = 0 by omega] at h
          rw [Obol.smulN_eq]
          exact h.done
        have r0 := Rr.cell 0 rfl
        have r1 := Rr.cell 1 rfl
        have fr0 := Rr.free 0
        have fr1 := Rr.free 1
        go_wp2_with (go_at_call 65; refine (RPow2 _ i3 _).mono ?_; rintro e w' ⟨rfl, n, rfl⟩)
        go_region_with (go_at_call 66; refine (eMul _ _ (by omega) (by omega) _).mono ?_; rintro e w' ⟨rfl, n, rfl⟩)
        all_goals go_wp2_with fail
        all_goals
          refine bodyPost_ret (v := edV (Obol.mulR ox.toNat (Obol.invR oz.toNat) : Nat) (Obol.mulR oy.toNat (Obol.invR oz.toNat) : Nat)) (by simp [results, Tryz.results32, go_sem, r0, r1]) rfl ⟨by rw [← HD.out], ?_⟩
          repeat (first | exact Below.refl _ _ | assumption | apply bDrewN | apply bDrew | apply bAlloc | refine bSet ?_ (by omega) | refine bThen ?_ (by assumption) (by simp <;> omega))

end Go.Proofs.YtkfimfjjmdjbdaaGreatDoor
/- Walks: the reference of layer 1: sums, products, powers bit by bit. -/
namespace Go.Proofs.YtkfimfjjmdjbdaaGreatDoor
open Go.RowKit

theorem end_add1 (m x y : Int) (h0 : 1 ≤ m) (h1 : m ≤ 4611686018427387904) (ha : 0 ≤ x) (hb : 0 ≤ y) (hx : x < m) (hy : y < m) :
    (if m - y ≤ x then x - (m - y) else x + y) = ((Obol.addM m.toNat x.toNat y.toNat : Nat) : Int) := by
  have := Obol.add_mod_by (m := m.toNat) (a := x.toNat) (b := y.toNat) (by omega) (by omega)
  rw [Obol.addM, ← this]
  split
  · rw [if_pos (by omega)]; omega
  · rw [if_neg (by omega)]; omega
theorem addM_mod (m a b : Nat) : Obol.addM m (a % m) (b % m) = Obol.addM m a b := by unfold Obol.addM; rw [← Nat.add_mod]
theorem toNat_mod {m a : Int} (ha : 0 ≤ a) (h0 : 1 ≤ m) : (a % m).toNat = a.toNat % m.toNat := Int.toNat_emod ha (by omega)

theorem r1Add (m a b : Int) (h0 : 1 ≤ m) (h1 : m ≤ 4611686018427387904) (ha : 0 ≤ a) (hb : 0 ≤ b) (w : World) :
    Calls Tryz.prog 83 #[.int .u64 m, .int .u64 a, .int .u64 b] w fun e w' => e = .returned (.int .u64 ((Obol.addM m.toNat a.toNat b.toNat : Nat) : Int)) ∧ w' = w := by
  have h2 := Int.emod_nonneg a (show m ≠ 0 by omega)
  have h3 := Int.emod_lt_of_pos a (show 0 < m by omega)
  have h4 := Int.emod_nonneg b (show m ≠ 0 by omega)
  have h5 := Int.emod_lt_of_pos b (show 0 < m by omega)
  have he := end_add1 m (a % m) (b % m) h0 h1 h2 h4 h3 h5
  rw [toNat_mod ha h0, toNat_mod hb h0, addM_mod] at he
  have e1 : a.tmod m = a % m := Int.tmod_eq_emod_of_nonneg ha
  have e2 : b.tmod m = b % m := Int.tmod_eq_emod_of_nonneg hb
  obtain ⟨x, hx⟩ : ∃ x : Int, x = a % m := ⟨_, rfl⟩
  obtain ⟨y, hy⟩ : ∃ y : Int, y = b % m := ⟨_, rfl⟩
  rw [← hx, ← hy] at he
  rw [← hx] at e1 h2 h3
  rw [← hy] at e2 h4 h5
  replace hx := hx.symm
  replace hy := hy.symm
  by_cases hc : m - y ≤ x
  · rw [if_pos hc] at he
    have HE := Lib.hid he
    clear he
    go_enter Tryz.func83, Tryz.ntmps83
    go_wp2
    go_ret
    exact ⟨ret_u64 HE.out, rfl⟩
  · rw [if_neg hc] at he
    have HE := Lib.hid he
    clear he
    go_enter Tryz.func83, Tryz.ntmps83
    go_wp2
    go_ret
    exact ⟨ret_u64 HE.out, rfl⟩

/-- What is known ahead of a product's next bit. -/
structure R1I (m x y : Nat) (O i : Int) : Prop where
  i0 : 0 ≤ i
  i1 : i ≤ 64
  o0 : 0 ≤ O
  o1 : O < m
  eq : O.toNat = y / 2 ^ (64 - i.toNat) * x % m

/-- The next bit of a number, from the highest on. -/
def bitI (y i : Int) : Int := y / 2 ^ (63 - i).toNat % 2
theorem bitI_01 (y i : Int) : bitI y i = 0 ∨ bitI y i = 1 := by unfold bitI; omega
theorem bitI_toNat (y i : Int) (hy : 0 ≤ y) (h0 : 0 ≤ i) (h1 : i < 64) : bitI y i = ((y.toNat / 2 ^ (63 - i.toNat) % 2 : Nat) : Int) := by
  unfold bitI
  rw [show (63 - i).toNat = 63 - i.toNat by omega, Int.natCast_emod, Int.natCast_ediv, Int.toNat_of_nonneg hy]
  rfl
theorem bitI_bits (y i : Int) (hy : 0 ≤ y) (hy1 : y ≤ 18446744073709551615) : bits .and .u64 (y / 2 ^ (63 - i).toNat) 1 = bitI y i := by
  have h2 : (1 : Int) ≤ 2 ^ (63 - i).toNat := Int.add_one_le_of_lt (Int.pow_pos (by omega))
  have h0 : 0 ≤ y / 2 ^ (63 - i).toNat := Int.ediv_nonneg hy (by omega)
  have h1 : y / 2 ^ (63 - i).toNat ≤ y := Int.ediv_le_self _ hy
  rw [and_one_u64 _ h0 (by omega)]
  rfl

def dblI (m O : Int) : Int := if m - O ≤ O then O - (m - O) else O + O
def stepI (m x O B : Int) : Int := if B = 1 then (if m - x ≤ dblI m O then dblI m O - (m - x) else dblI m O + x) else dblI m O

theorem R1I.step {m x y O i : Int} (h : R1I m.toNat x.toNat y.toNat O i) (hm : 1 ≤ m) (hx : 0 ≤ x) (hxm : x < m) (hy : 0 ≤ y) (hi : i < 64) {O' : Int} (he : O' = stepI m x O (bitI y i)) :
    R1I m.toNat x.toNat y.toNat O' (i + 1) := by
  have i0 := h.i0
  have o0 := h.o0
  have o1 := h.o1
  have hd : dblI m O = (((O.toNat + O.toNat) % m.toNat : Nat) : Int) := by
    have := Obol.add_mod_by (m := m.toNat) (a := O.toNat) (b := O.toNat) (by omega) (by omega)
    rw [← this]
    unfold dblI
    split
    · rw [if_pos (by omega)]; omega
    · rw [if_neg (by omega)]; omega
  have hdl : (O.toNat + O.toNat) % m.toNat < m.toNat := Nat.mod_lt _ (by omega)
  have hD : O' = (((((O.toNat + O.toNat) % m.toNat) + (if y.toNat / 2 ^ (63 - i.toNat) % 2 = 1 then x.toNat % m.toNat else 0)) % m.toNat : Nat) : Int) := by
    have hb := bitI_toNat y i hy i0 hi
    rw [Nat.mod_eq_of_lt (show x.toNat < m.toNat by omega)]
    have := Obol.add_mod_by (m := m.toNat) (a := (O.toNat + O.toNat) % m.toNat) (b := x.toNat) hdl (by omega)
    rw [he, stepI, hd]
    generalize (O.toNat + O.toNat) % m.toNat = D at *
    by_cases hB : bitI y i = 1
    · rw [if_pos hB, if_pos (show y.toNat / 2 ^ (63 - i.toNat) % 2 = 1 by omega), ← this]
      split
      · rw [if_pos (by omega)]; omega
      · rw [if_neg (by omega)]; omega
    · rw [if_neg hB, if_neg (show ¬ y.toNat / 2 ^ (63 - i.toNat) % 2 = 1 by omega), Nat.add_zero, Nat.mod_eq_of_lt hdl]
  have hs := Obol.mul_step m.toNat x.toNat y.toNat i.toNat (by omega)
  rw [← h.eq] at hs
  rw [hs] at hD
  have hl := Nat.mod_lt (y.toNat / 2 ^ (64 - (i.toNat + 1)) * x.toNat) (show m.toNat > 0 by omega)
  refine ⟨by omega, by omega, by omega, by omega, ?_⟩
  rw [show (i + 1).toNat = i.toNat + 1 by omega, hD, Int.toNat_natCast]

theorem R1I.done {m a b O i : Int} (h : R1I m.toNat (a % m).toNat (b % m).toNat O i) (hm : 1 ≤ m) (ha : 0 ≤ a) (hb : 0 ≤ b) (hi : ¬ i < 64) : O = ((Obol.mulM m.toNat a.toNat b.toNat : Nat) : Int) := by
  have h1 := h.eq
  have i1 := h.i1
  have o0 := h.o0
  rw [show i.toNat = 64 by omega, Nat.sub_self, Nat.pow_zero, Nat.div_one, toNat_mod ha hm, toNat_mod hb hm, Nat.mul_comm, ← Nat.mul_mod] at h1
  rw [Obol.mulM]
  omega

theorem r1Mul (m a b : Int) (h0 : 1 ≤ m) (h1 : m ≤ 4611686018427387904) (ha : 0 ≤ a) (hb : 0 ≤ b) (w : World) :
    Calls Tryz.prog 102 #[.int .u64 m, .int .u64 a, .int .u64 b] w fun e w' => e = .returned (.int .u64 ((Obol.mulM m.toNat a.toNat b.toNat : Nat) : Int)) ∧ w' = w := by
  have h2 := Int.emod_nonneg a (show m ≠ 0 by omega)
  have h3 := Int.emod_lt_of_pos a (show 0 < m by omega)
  have h4 := Int.emod_nonneg b (show m ≠ 0 by omega)
  have h5 := Int.emod_lt_of_pos b (show 0 < m by omega)
  have e1 : a.tmod m = a % m := Int.tmod_eq_emod_of_nonneg ha
  have e2 : b.tmod m = b % m := Int.tmod_eq_emod_of_nonneg hb
  obtain ⟨x, hx⟩ : ∃ x : Int, x = a % m := ⟨_, rfl⟩
  obtain ⟨y, hy⟩ : ∃ y : Int, y = b % m := ⟨_, rfl⟩
  rw [← hx] at e1 h2 h3
  rw [← hy] at e2 h4 h5
  replace hx := hx.symm
  replace hy := hy.symm
  have HX := Lib.hid hx
  have HY := Lib.hid hy
  have I0 : Hid (R1I m.toNat x.toNat y.toNat 0 0) := Lib.hid ⟨by omega, by omega, by omega, by omega, by
    show (0 : Int).toNat = y.toNat / 2 ^ 64 * x.toNat % m.toNat
    rw [Nat.div_eq_of_lt (by omega), Nat.zero_mul]; rfl⟩
  go_enter Tryz.func102, Tryz.ntmps102
  go_wp2
  go_loopw [9, 10] (fun o c wr => ∃ O i : Int, o = .int .u64 O ∧ c = .int .i64 i ∧ Hid (R1I m.toNat x.toNat y.toNat O i) ∧ wr = w) (fun _ c _ => (64 - intOf c).toNat)
  case atStart => exact ⟨0, 0, rfl, rfl, I0, rfl⟩
  case round =>
    obtain ⟨O, i, rfl, rfl, HI, rfl⟩ := hrel
    have i0 := HI.out.i0
    have i1 := HI.out.i1
    have j0 := HI.out.o0
    have j1 : O < m := by have := HI.out.o1; omega
    have ea := bitI_bits y i h4 (by omega)
    by_cases hi : i < 64
    · rcases bitI_01 y i with hB | hB
      all_goals
        rw [hB] at ea
        go_wp2
      all_goals
        refine ⟨⟨_, _, rfl, rfl, Lib.hid (HI.out.step h0 h2 h3 h4 hi ?_), trivial⟩, by simp [intOf]; omega⟩
        unfold stepI dblI
        repeat' split
        all_goals omega
    · have HD : Hid (O = ((Obol.mulM m.toNat a.toNat b.toNat : Nat) : Int)) := Lib.hid (by
        have h := HI.out
        rw [← HX.out, ← HY.out] at h
        exact h.done h0 ha hb hi)
      go_wp2
      go_ret
      exact ⟨ret_u64 HD.out, rfl⟩

/-- What is known ahead of a power's next bit. -/
structure R1P (m a e : Nat) (O i : Int) : Prop where
  i0 : 0 ≤ i
  i1 : i ≤ 64
  o0 : 0 ≤ O
  eq : O.toNat = a ^ (e / 2 ^ (64 - i.toNat)) % m

theorem R1P.one {m a e : Nat} {O i y : Int} (h : R1P m a e O i) (he : e = y.toNat) (hy : 0 ≤ y) (hi : i < 64) (hb : bitI y i = 1) :
    R1P m a e ((Obol.mulM m (Obol.mulM m O.toNat O.toNat) a : Nat) : Int) (i + 1) := by
  have i0 := h.i0
  refine ⟨by omega, by omega, by omega, ?_⟩
  have hs := Obol.pow_step m a e i.toNat (by omega)
  have hb' := bitI_toNat y i hy i0 hi
  rw [← h.eq, if_pos (by rw [he]; omega)] at hs
  rw [Int.toNat_natCast, show (i + 1).toNat = i.toNat + 1 by omega]
  exact hs
theorem R1P.zero {m a e : Nat} {O i y : Int} (h : R1P m a e O i) (he : e = y.toNat) (hy : 0 ≤ y) (hi : i < 64) (hb : bitI y i = 0) :
    R1P m a e ((Obol.mulM m O.toNat O.toNat : Nat) : Int) (i + 1) := by
  have i0 := h.i0
  refine ⟨by omega, by omega, by omega, ?_⟩
  have hs := Obol.pow_step m a e i.toNat (by omega)
  have hb' := bitI_toNat y i hy i0 hi
  rw [← h.eq, if_neg (by rw [he]; omega)] at hs
  rw [Int.toNat_natCast, show (i + 1).toNat = i.toNat + 1 by omega]
  exact hs

theorem r1Pow (m a e : Int) (h0 : 2 ≤ m) (h1 : m ≤ 4611686018427387904) (ha : 0 ≤ a) (he : 0 ≤ e) (he1 : e ≤ 18446744073709551615) (w : World) :
    Calls Tryz.prog 114 #[.int .u64 m, .int .u64 a, .int .u64 e] w fun r w' => r = .returned (.int .u64 ((Obol.powM m.toNat a.toNat e.toNat : Nat) : Int)) ∧ w' = w := by
  have e1 : (1 : Int).tmod m = 1 := by rw [Int.tmod_eq_emod_of_nonneg (by omega), Int.emod_eq_of_lt (by omega) (by omega)]
  have e2 : (1 : Int) % m = 1 := by rw [Int.emod_eq_of_lt (by omega) (by omega)]
  have I0 : Hid (R1P m.toNat a.toNat e.toNat 1 0) := Lib.hid ⟨by omega, by omega, by omega, by
    show 1 = a.toNat ^ (e.toNat / 2 ^ 64) % m.toNat
    rw [Nat.div_eq_of_lt (by omega), Nat.pow_zero, Nat.mod_eq_of_lt (by omega)]⟩
  go_enter Tryz.func114, Tryz.ntmps114
  go_wp2
  go_loopw [7, 8] (fun o c wr => ∃ O i : Int, o = .int .u64 O ∧ c = .int .i64 i ∧ Hid (R1P m.toNat a.toNat e.toNat O i) ∧ wr = w) (fun _ c _ => (64 - intOf c).toNat)
  case atStart => exact ⟨1, 0, rfl, rfl, I0, rfl⟩
  case round =>
    obtain ⟨O, i, rfl, rfl, HI, rfl⟩ := hrel
    have i0 := HI.out.i0
    have i1 := HI.out.i1
    have j0 := HI.out.o0
    have ea := bitI_bits e i he he1
    by_cases hi : i < 64
    · rcases bitI_01 e i with hB | hB
      · have HN := Lib.hid (HI.out.zero rfl he hi hB)
        rw [hB] at ea
        go_wp2_with (go_at_call 102; refine (r1Mul _ _ _ (by omega) (by omega) (by omega) (by omega) _).mono ?_; rintro e w' ⟨rfl, rfl⟩)
        exact ⟨⟨_, _, rfl, rfl, HN, trivial⟩, by simp [intOf]; omega⟩
      · have HN := Lib.hid (HI.out.one rfl he hi hB)
        rw [hB] at ea
        go_wp2_with (go_at_call 102; refine (r1Mul _ _ _ (by omega) (by omega) (by omega) (by omega) _).mono ?_; rintro e w' ⟨rfl, rfl⟩)
        exact ⟨⟨_, _, rfl, rfl, HN, trivial⟩, by simp [intOf]; omega⟩
    · have HD : Hid (O = ((Obol.powM m.toNat a.toNat e.toNat : Nat) : Int)) := Lib.hid (by
        have h := HI.out.eq
        rw [show i.toNat = 64 by omega, Nat.sub_self, Nat.pow_zero, Nat.div_one] at h
        rw [Obol.powM]
        omega)
      go_wp2
      go_ret
      exact ⟨ret_u64 HD.out, rfl⟩

/-! the same modulo R -/
theorem R1Add (a b : Int) (ha : 0 ≤ a) (hb : 0 ≤ b) (w : World) :
    Calls Tryz.prog 83 #[.int .u64 288230376287764481, .int .u64 a, .int .u64 b] w fun e w' => e = .returned (.int .u64 ((Obol.addR a.toNat b.toNat : Nat) : Int)) ∧ w' = w :=
  by rw [Obol.addR_eq]; exact r1Add _ a b (by omega) (by omega) ha hb w
theorem R1Mul (a b : Int) (ha : 0 ≤ a) (hb : 0 ≤ b) (w : World) :
    Calls Tryz.prog 102 #[.int .u64 288230376287764481, .int .u64 a, .int .u64 b] w fun e w' => e = .returned (.int .u64 ((Obol.mulR a.toNat b.toNat : Nat) : Int)) ∧ w' = w :=
  by rw [Obol.mulR_eq]; exact r1Mul _ a b (by omega) (by omega) ha hb w
theorem R1Pow2 (b : Int) (hb : 0 ≤ b) (w : World) :
    Calls Tryz.prog 114 #[.int .u64 288230376287764481, .int .u64 b, .int .u64 288230376287764479] w fun e w' => e = .returned (.int .u64 ((Obol.invR b.toNat : Nat) : Int)) ∧ w' = w := by
  have h := r1Pow 288230376287764481 b 288230376287764479 (by omega) (by omega) hb (by omega) (by omega) w
  rw [litR, litR2] at h
  rw [Obol.powM, ← Obol.invR_eq] at h
  exact h

end Go.Proofs.YtkfimfjjmdjbdaaGreatDoor
/- Walks: the reference of layer 7: the field, points, sums, multiples. -/
namespace Go.Proofs.YtkfimfjjmdjbdaaGreatDoor
open Go.RowKit

theorem addR_less (a b : Nat) : Obol.addR a (288230376287764481 - b % 288230376287764481) = Obol.subR a b := by
  rw [Obol.addR_eq, Obol.subR_eq, Obol.addQ, Obol.subQ, Obol.R_def]
  omega

theorem r7Mul (a b : Int) (ha : 0 ≤ a) (hb : 0 ≤ b) (w : World) :
    Calls Tryz.prog 79 #[.int .u64 a, .int .u64 b] w fun e w' => e = .returned (.int .u64 ((Obol.mulR a.toNat b.toNat : Nat) : Int)) ∧ ∃ n, w' = w.drewN n := by
  go_enter Tryz.func79, Tryz.ntmps79
  go_wp2_with (go_at_call 102; refine (R1Mul _ _ ha hb _).mono ?_; rintro e w' ⟨rfl, rfl⟩)
  go_ret
  exact ⟨rfl, 0, rfl⟩
theorem r7Plus (a b : Int) (ha : 0 ≤ a) (hb : 0 ≤ b) (w : World) :
    Calls Tryz.prog 80 #[.int .u64 a, .int .u64 b] w fun e w' => e = .returned (.int .u64 ((Obol.addR a.toNat b.toNat : Nat) : Int)) ∧ ∃ n, w' = w.drewN n := by
  go_enter Tryz.func80, Tryz.ntmps80
  go_wp2_with (go_at_call 83; refine (R1Add _ _ ha hb _).mono ?_; rintro e w' ⟨rfl, rfl⟩)
  go_ret
  exact ⟨rfl, 0, rfl⟩
theorem r7Less (a b : Int) (ha : 0 ≤ a) (hb : 0 ≤ b) (w : World) :
    Calls Tryz.prog 104 #[.int .u64 a, .int .u64 b] w fun e w' => e = .returned (.int .u64 ((Obol.subR a.toNat b.toNat : Nat) : Int)) ∧ ∃ n, w' = w.drewN n := by
  have h1 : (288230376287764481 - b % 288230376287764481).toNat = 288230376287764481 - b.toNat % 288230376287764481 := by omega
  have he := addR_less a.toNat b.toNat
  rw [← h1] at he
  obtain ⟨z, hz⟩ : ∃ z : Int, z = b % 288230376287764481 := ⟨_, rfl⟩
  rw [← hz] at he
  have HE := Lib.hid he
  have e1 : b.tmod 288230376287764481 = z := by rw [Int.tmod_eq_emod_of_nonneg hb]; exact hz.symm
  have h2 : 0 ≤ z := by omega
  have h3 : z < 288230376287764481 := by omega
  replace hz := hz.symm
  clear he h1
  go_enter Tryz.func104, Tryz.ntmps104
  go_wp2_with (go_at_call 80; refine (r7Plus _ _ ha (by omega) _).mono ?_; rintro e w' ⟨rfl, n, rfl⟩)
  go_ret
  exact ⟨ret_u64 (by rw [HE.out]), _, rfl⟩
theorem r7Over (a b : Int) (ha : 0 ≤ a) (hb : 0 ≤ b) (w : World) :
    Calls Tryz.prog 103 #[.int .u64 a, .int .u64 b] w fun e w' => e = .returned (.int .u64 ((Obol.overR a.toNat b.toNat : Nat) : Int)) ∧ ∃ n, w' = w.drewN n := by
  go_enter Tryz.func103, Tryz.ntmps103
  go_wp2_with (first | (go_at_call 114; refine (R1Pow2 _ hb _).mono ?_; rintro e w' ⟨rfl, rfl⟩) | (go_at_call 79; refine (r7Mul _ _ (by omega) (by omega) _).mono ?_; rintro e w' ⟨rfl, n, rfl⟩))
  go_ret
  refine ⟨?_, _, rfl⟩
  show Ending.returned (.int .u64 ((Obol.mulR a.toNat (Obol.invR b.toNat) : Nat) : Int)) = _
  rw [Obol.overR]

theorem isN_near2 {x y : Nat} (h1 : x < 288230376287764481) (h2 : y < 288230376287764481) :
    Obol.isN (x, y) = (((Obol.mulR y y : Nat) : Int) == ((Obol.addR (Obol.mulR x x) (Obol.addR 1 (Obol.mulR 439 (Obol.mulR (Obol.mulR x x) (Obol.mulR y y)))) : Nat) : Int)) := by
  rw [isN_near h1 h2, Bool.eq_iff_iff, beq_iff_eq, beq_iff_eq, Int.ofNat_inj, Int.ofNat_inj]
  have h3 := Obol.mulR_lt y y
  have h4 := Obol.mulR_lt x x
  have h5 : Obol.addR 1 (Obol.mulR 439 (Obol.mulR (Obol.mulR x x) (Obol.mulR y y))) < Obol.R := by rw [Obol.addR_eq]; exact Nat.mod_lt _ Obol.R_pos
  generalize Obol.addR 1 (Obol.mulR 439 (Obol.mulR (Obol.mulR x x) (Obol.mulR y y))) = c at *
  generalize Obol.mulR x x = a at *
  generalize Obol.mulR y y = b at *
  rw [Obol.addR_eq, Obol.subR_eq, Obol.addQ, Obol.subQ]
  rw [Obol.R_def] at *
  omega

theorem r7Is (X Y : Int) (hX : 0 ≤ X) (hY : 0 ≤ Y) (w : World) :
    Calls Tryz.prog 53 #[edV X Y] w fun e w' => e = .returned (.bool (Obol.isN (X.toNat, Y.toNat))) ∧ Below w.heap.size w w' := by
  by_cases h1 : (288230376287764481 : Int) ≤ X
  · have hr := Lib.hid (isN_far1 (x := X.toNat) (y := Y.toNat) (by omega))
    go_enter Tryz.func53, Tryz.ntmps53
    go_wp2_with fail
    go_ret
    exact ⟨by rw [hr.out]; rfl, by repeat (first | exact Below.refl _ _ | assumption | apply bDrewN | apply bDrew | apply bAlloc | refine bSet ?_ (by omega) | refine bThen ?_ (by assumption) (by simp <;> omega))⟩
  · by_cases h2 : (288230376287764481 : Int) ≤ Y
    · have hr := Lib.hid (isN_far2 (x := X.toNat) (y := Y.toNat) (by omega))
      go_enter Tryz.func53, Tryz.ntmps53
      go_wp2_with fail
      go_ret
      exact ⟨by rw [hr.out]; rfl, by repeat (first | exact Below.refl _ _ | assumption | apply bDrewN | apply bDrew | apply bAlloc | refine bSet ?_ (by omega) | refine bThen ?_ (by assumption) (by simp <;> omega))⟩
    · have hr := Lib.hid (isN_near2 (x := X.toNat) (y := Y.toNat) (by omega) (by omega))
      go_enter Tryz.func53, Tryz.ntmps53
      go_wp2_with (first | (go_at_call 79; refine (r7Mul _ _ (by omega) (by omega) _).mono ?_; rintro e w' ⟨rfl, n, rfl⟩) | (go_at_call 80; refine (r7Plus _ _ (by omega) (by omega) _).mono ?_; rintro e w' ⟨rfl, n, rfl⟩))
      go_ret
      exact ⟨by rw [hr.out]; rfl, by repeat (first | exact Below.refl _ _ | assumption | apply bDrewN | apply bDrew | apply bAlloc | refine bSet ?_ (by omega) | refine bThen ?_ (by assumption) (by simp <;> omega))⟩

end Go.Proofs.YtkfimfjjmdjbdaaGreatDoor
/- Roots modulo R: there are two at most; and the steps by which one is found (Tonelli and Shanks). -/
namespace Obol

theorem R_two : 2 < R := rootR.big
theorem pow_cong {a b : Nat} (n : Nat) (h : a % R = b % R) : a ^ n % R = b ^ n % R := by rw [Nat.pow_mod, h, ← Nat.pow_mod]
theorem mul_cong {a b c d : Nat} (h : a % R = b % R) (k : c % R = d % R) : a * c % R = b * d % R := by rw [Nat.mul_mod, h, k, ← Nat.mul_mod]

theorem two_roots {x y : Nat} (hx : x < R) (hy : y < R) (h : x * x % R = y * y % R) : x = y ∨ x + y = R := by
  have key : ∀ x y, y < x → x < R → x * x % R = y * y % R → x + y = R := by
    intro x y hlt hx h
    have e : (x - y) * (x + y) % R = 0 := by
      have e1 : (x - y) * (x + y) = x * x - y * y := by
        rw [Nat.mul_comm, Nat.mul_self_sub_mul_self_eq]
      rw [e1]
      have e2 := Nat.mul_le_mul (Nat.le_of_lt hlt) (Nat.le_of_lt hlt)
      have d1 := Nat.div_add_mod (x * x) R
      have d2 := Nat.div_add_mod (y * y) R
      have e3 : x * x - y * y = R * (x * x / R - y * y / R) := by
        rw [Nat.mul_sub]
        omega
      rw [e3, Nat.mul_mod_right]
    refine Classical.byContradiction fun hn => ?_
    refine rootR.nonzero (a := x - y) (b := x + y) ?_ ?_ e
    · rw [Nat.mod_eq_of_lt (by omega)]; omega
    · by_cases hl : x + y < R
      · rw [Nat.mod_eq_of_lt hl]; omega
      · rw [Nat.mod_eq_sub_mod (by omega), Nat.mod_eq_of_lt (by omega)]; omega
  rcases Nat.lt_trichotomy x y with g | g | g
  · right; rw [Nat.add_comm]; exact key y x g hy h.symm
  · exact .inl g
  · exact .inr (key x y g hx h)

theorem one_root {u : Nat} (hu : u < R) (h : u * u % R = 1) (h1 : u ≠ 1) : u = R - 1 := by
  have := R_two
  rcases two_roots (x := u) (y := 1) hu (by omega) (by rw [h, Nat.mul_one, Nat.mod_eq_of_lt (by omega)]) with e | e
  · exact absurd e h1
  · omega

theorem last_sq : (R - 1) * (R - 1) % R = 1 := by decide +kernel

theorem three_pow (n : Nat) (h : n < 2 ^ 64) (e : powm R 64 3 n = R - 1) : 3 ^ n % R = R - 1 := by rw [← powm_eq R 64 3 n h]; exact e

/-- What is known ahead of each round. -/
structure TS (a c t x w : Nat) : Prop where
  c_lt : c < R
  t_lt : t < R
  x_lt : x < R
  w_pos : 0 < w
  w_le : w ≤ 18
  root : x * x % R = a * t % R
  tp : t ^ (2 ^ (w - 1)) % R = 1
  cp : c ^ (2 ^ (w - 1)) % R = R - 1

def oddR : Nat := 1099511628295
def oddH : Nat := 549755814148
theorem odd_H : oddH + oddH = oddR + 1 := rfl
theorem odd_R {w : Nat} (hw : w = 18) : oddR * 2 ^ (w - 1) = (R - 1) / 2 := by subst hw; decide +kernel

theorem TS.init {a w : Nat} (hw : w = 18) (h : a ^ ((R - 1) / 2) % R = 1) :
    TS a (3 ^ oddR % R) (a ^ oddR % R) (a ^ oddH % R) w where
  c_lt := Nat.mod_lt _ (by decide +kernel)
  t_lt := Nat.mod_lt _ (by decide +kernel)
  x_lt := Nat.mod_lt _ (by decide +kernel)
  w_pos := by omega
  w_le := by omega
  root := by
    rw [← Nat.mul_mod, ← Nat.pow_add, Nat.mul_mod a, Nat.mod_mod, ← Nat.mul_mod, Nat.mul_comm a, ← Nat.pow_succ, odd_H]
  tp := by
    rw [← Nat.pow_mod, ← Nat.pow_mul, odd_R hw]
    exact h
  cp := by
    rw [← Nat.pow_mod, ← Nat.pow_mul, odd_R hw]
    exact three_pow _ (by decide +kernel) (by decide +kernel)

theorem sq_pow (t i : Nat) : t ^ 2 ^ i % R * (t ^ 2 ^ i % R) % R = t ^ 2 ^ (i + 1) % R := by
  rw [← Nat.mul_mod, ← Nat.pow_add, Nat.pow_succ]
  congr 2
  omega

theorem TS.step {a c t x w : Nat} (h : TS a c t x w) {i : Nat} (h0 : 0 < i) (hi : t ^ 2 ^ i % R = 1) (hm : ∀ j, j < i → t ^ 2 ^ j % R ≠ 1) {b : Nat} (hb : b = c ^ (2 ^ (w - i - 1)) % R) :
    i < w ∧ TS a (b * b % R) (t * (b * b % R) % R) (x * b % R) i := by
  have hRp : 0 < R := by decide +kernel
  have hiw : i < w := by
    refine Nat.lt_of_not_le fun hle => ?_
    exact hm (w - 1) (by have := h.w_pos; omega) h.tp
  have hw := h.w_le
  have cc : (b * b % R) ^ 2 ^ (i - 1) % R = R - 1 := by
    rw [← Nat.pow_mod, ← Nat.pow_two, ← Nat.pow_mul, hb, ← Nat.pow_mod, ← Nat.pow_mul]
    have : 2 ^ (w - i - 1) * (2 * 2 ^ (i - 1)) = 2 ^ (w - 1) := by
      rw [← Nat.pow_succ', ← Nat.pow_add]
      congr 1
      omega
    rw [this]
    exact h.cp
  have tt : t ^ 2 ^ (i - 1) % R = R - 1 := by
    refine one_root (Nat.mod_lt _ hRp) ?_ (hm (i - 1) (by omega))
    rw [sq_pow, show i - 1 + 1 = i by omega]
    exact hi
  refine ⟨hiw, Nat.mod_lt _ hRp, Nat.mod_lt _ hRp, Nat.mod_lt _ hRp, h0, by omega, ?_, ?_, cc⟩
  · have e1 : x * b % R * (x * b % R) % R = x * x * (b * b) % R := by
      rw [← Nat.mul_mod]
      congr 1
      simp only [Nat.mul_comm, Nat.mul_left_comm]
    have e2 : a * (t * (b * b % R) % R) % R = a * t * (b * b) % R := by
      rw [Nat.mul_mod a, Nat.mod_mod, ← Nat.mul_mod, ← Nat.mul_assoc, Nat.mul_mod, Nat.mod_mod, ← Nat.mul_mod]
    rw [e1, e2]
    exact mul_cong h.root rfl
  · rw [← Nat.pow_mod, Nat.mul_pow, Nat.mul_mod, tt, cc]
    exact last_sq

theorem TS.done {a c x w : Nat} (h : TS a c 1 x w) : x * x % R = a % R := by rw [h.root, Nat.mul_one]

/-- Has it a root? -/
def sqB (a : Nat) : Bool := a % R == 0 || a ^ ((R - 1) / 2) % R == 1

theorem sqB_iff (a : Nat) : sqB a = true ↔ ∃ x, x < R ∧ x * x % R = a % R := by
  unfold sqB
  simp only [Bool.or_eq_true, beq_iff_eq]
  constructor
  · rintro (h | h)
    · exact ⟨0, by decide +kernel, by rw [h]; decide +kernel⟩
    · by_cases h0 : a % R = 0
      · exact ⟨0, by decide +kernel, by rw [h0]; decide +kernel⟩
      · exact rootR.square (by decide +kernel) a h0 h
  · rintro ⟨x, hx, h⟩
    by_cases h0 : a % R = 0
    · exact .inl h0
    · exact .inr (rootR.euler (by decide +kernel) a x h0 h)

end Obol
