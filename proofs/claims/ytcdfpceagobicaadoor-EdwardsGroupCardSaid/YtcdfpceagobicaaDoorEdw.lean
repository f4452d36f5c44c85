/- The Edwards curve -x x + y y = 1 + d x x y y over a field in which -1 is a square and d is none: its points are a group. No program in sight. -/
namespace Obol

theorem assoc_x {ell : Nat} [NeZero ell] {x1 y1 x2 y2 x3 y3 d N M A B N2 M2 A2 B2 : Fin ell} (hN : N = x1*y2 + y1*x2) (hM : M = y1*y2 + x1*x2) (hA : A = 1 + d*x1*y1*x2*y2) (hB : B = 1 - d*x1*y1*x2*y2)
    (hN2 : N2 = x2*y3 + y2*x3) (hM2 : M2 = y2*y3 + x2*x3) (hA2 : A2 = 1 + d*x2*y2*x3*y3) (hB2 : B2 = 1 - d*x2*y2*x3*y3)
    (h1 : d*x1*x1*y1*y1 + 1 + x1*x1 - y1*y1 = 0) (h2 : d*x2*x2*y2*y2 + 1 + x2*x2 - y2*y2 = 0) (h3 : d*x3*x3*y3*y3 + 1 + x3*x3 - y3*y3 = 0) :
    (N*B*y3 + M*A*x3)*(A2*B2 + d*x1*y1*N2*M2) - (x1*M2*A2 + y1*N2*B2)*(A*B + d*x3*y3*N*M) = 0 := by
  have e : (N*B*y3 + M*A*x3)*(A2*B2 + d*x1*y1*N2*M2) - (x1*M2*A2 + y1*N2*B2)*(A*B + d*x3*y3*N*M) =
      (x1*x2*x2*x2*x2*y2*y2*y2*x3*x3*y3*d*d + x1*x2*x2*x2*x2*y2*x3*x3*y3*d + x1*x2*x2*x2*y2*y2*y2*y2*x3*y3*y3*d*d + x1*x2*x2*x2*y2*y2*x3*x3*x3*d + x1*x2*x2*x2*y2*y2*x3*d - x1*x2*x2*y2*y2*y2*y3*y3*y3*d + x1*x2*x2*y2*y2*y2*y3*d - x1*x2*y2*y2*y2*y2*x3*y3*y3*d - y1*x2*x2*x2*x2*y2*y2*y2*x3*y3*y3*d*d - y1*x2*x2*x2*x2*y2*x3*y3*y3*d - y1*x2*x2*x2*y2*y2*y2*y2*x3*x3*y3*d*d - y1*x2*x2*x2*y2*y2*y3*y3*y3*d + y1*x2*x2*x2*y2*y2*y3*d + y1*x2*x2*y2*y2*y2*x3*x3*x3*d + y1*x2*x2*y2*y2*y2*x3*d + y1*x2*y2*y2*y2*y2*x3*x3*y3*d) * (d*x1*x1*y1*y1 + 1 + x1*x1 - y1*y1) +
      (-x1*x1*x1*x2*x2*y2*x3*x3*y3*d - x1*x1*x1*x2*y2*y2*x3*y3*y3*d - x1*x1*x1*x2*x3*x3*x3*y3*y3*d - x1*x1*x1*x2*x3*x3*x3 + x1*x1*x1*x2*x3*y3*y3 - x1*x1*x1*x2*x3 - x1*x1*x1*y2*x3*x3*y3*y3*y3*d - x1*x1*x1*y2*x3*x3*y3 + x1*x1*x1*y2*y3*y3*y3 - x1*x1*x1*y2*y3 - x1*x1*y1*x2*x2*y2*x3*x3*x3*y3*y3*d*d + x1*x1*y1*x2*x2*y2*x3*y3*y3*d + x1*x1*y1*x2*y2*y2*x3*x3*y3*y3*y3*d*d + x1*x1*y1*x2*y2*y2*x3*x3*y3*d - x1*x1*y1*x2*x3*x3*y3*y3*y3*d - x1*x1*y1*x2*x3*x3*y3 + x1*x1*y1*x2*y3*y3*y3 - x1*x1*y1*x2*y3 - x1*x1*y1*y2*x3*x3*x3*y3*y3*d - x1*x1*y1*y2*x3*x3*x3 + x1*x1*y1*y2*x3*y3*y3 - x1*x1*y1*y2*x3 + x1*y1*y1*x2*x2*y2*x3*x3*y3*y3*y3*d*d + x1*y1*y1*x2*x2*y2*x3*x3*y3*d - x1*y1*y1*x2*y2*y2*x3*x3*x3*y3*y3*d*d + x1*y1*y1*x2*y2*y2*x3*y3*y3*d + x1*y1*y1*x2*x3*x3*x3*y3*y3*d + x1*y1*y1*x2*x3*x3*x3 - x1*y1*y1*x2*x3*y3*y3 + x1*y1*y1*x2*x3 + x1*y1*y1*y2*x3*x3*y3*y3*y3*d + x1*y1*y1*y2*x3*x3*y3 - x1*y1*y1*y2*y3*y3*y3 + x1*y1*y1*y2*y3 - x1*x2*x2*y2*x3*x3*y3*d - x1*x2*y2*y2*x3*y3*y3*d - x1*x2*x3*x3*x3*y3*y3*d - x1*x2*x3*x3*x3 + x1*x2*x3*y3*y3 - x1*x2*x3 - x1*y2*x3*x3*y3*y3*y3*d - x1*y2*x3*x3*y3 + x1*y2*y3*y3*y3 - x1*y2*y3 - y1*y1*y1*x2*x2*y2*x3*y3*y3*d - y1*y1*y1*x2*y2*y2*x3*x3*y3*d + y1*y1*y1*x2*x3*x3*y3*y3*y3*d + y1*y1*y1*x2*x3*x3*y3 - y1*y1*y1*x2*y3*y3*y3 + y1*y1*y1*x2*y3 + y1*y1*y1*y2*x3*x3*x3*y3*y3*d + y1*y1*y1*y2*x3*x3*x3 - y1*y1*y1*y2*x3*y3*y3 + y1*y1*y1*y2*x3 + y1*x2*x2*y2*x3*y3*y3*d + y1*x2*y2*y2*x3*x3*y3*d - y1*x2*x3*x3*y3*y3*y3*d - y1*x2*x3*x3*y3 + y1*x2*y3*y3*y3 - y1*x2*y3 - y1*y2*x3*x3*x3*y3*y3*d - y1*y2*x3*x3*x3 + y1*y2*x3*y3*y3 - y1*y2*x3) * (d*x2*x2*y2*y2 + 1 + x2*x2 - y2*y2) +
      (x1*x1*x1*x2*x2*x2*x3 + x1*x1*x1*x2*x2*y2*y3 - x1*x1*x1*x2*y2*y2*x3 + x1*x1*x1*x2*x3 - x1*x1*x1*y2*y2*y2*y3 + x1*x1*x1*y2*y3 + x1*x1*y1*x2*x2*x2*y3 + x1*x1*y1*x2*x2*y2*x3*d + x1*x1*y1*x2*x2*y2*x3 - x1*x1*y1*x2*y2*y2*y3*d - x1*x1*y1*x2*y2*y2*y3 + x1*x1*y1*x2*y3 - x1*x1*y1*y2*y2*y2*x3 + x1*x1*y1*y2*x3 - x1*y1*y1*x2*x2*x2*x3 - x1*y1*y1*x2*x2*y2*y3*d - x1*y1*y1*x2*x2*y2*y3 + x1*y1*y1*x2*y2*y2*x3*d + x1*y1*y1*x2*y2*y2*x3 - x1*y1*y1*x2*x3 + x1*y1*y1*y2*y2*y2*y3 - x1*y1*y1*y2*y3 + x1*x2*x2*x2*x3 + x1*x2*x2*y2*y3 - x1*x2*y2*y2*x3 + x1*x2*x3 - x1*y2*y2*y2*y3 + x1*y2*y3 - y1*y1*y1*x2*x2*x2*y3 - y1*y1*y1*x2*x2*y2*x3 + y1*y1*y1*x2*y2*y2*y3 - y1*y1*y1*x2*y3 + y1*y1*y1*y2*y2*y2*x3 - y1*y1*y1*y2*x3 + y1*x2*x2*x2*y3 + y1*x2*x2*y2*x3 - y1*x2*y2*y2*y3 + y1*x2*y3 - y1*y2*y2*y2*x3 + y1*y2*x3) * (d*x3*x3*y3*y3 + 1 + x3*x3 - y3*y3) := by
    subst hN hM hA hB hN2 hM2 hA2 hB2
    clear h1 h2 h3
    grind
  rw [e, h1, h2, h3]
  grind

theorem assoc_y {ell : Nat} [NeZero ell] {x1 y1 x2 y2 x3 y3 d N M A B N2 M2 A2 B2 : Fin ell} (hN : N = x1*y2 + y1*x2) (hM : M = y1*y2 + x1*x2) (hA : A = 1 + d*x1*y1*x2*y2) (hB : B = 1 - d*x1*y1*x2*y2)
    (hN2 : N2 = x2*y3 + y2*x3) (hM2 : M2 = y2*y3 + x2*x3) (hA2 : A2 = 1 + d*x2*y2*x3*y3) (hB2 : B2 = 1 - d*x2*y2*x3*y3)
    (h1 : d*x1*x1*y1*y1 + 1 + x1*x1 - y1*y1 = 0) (h2 : d*x2*x2*y2*y2 + 1 + x2*x2 - y2*y2 = 0) (h3 : d*x3*x3*y3*y3 + 1 + x3*x3 - y3*y3 = 0) :
    (M*A*y3 + N*B*x3)*(A2*B2 - d*x1*y1*N2*M2) - (y1*M2*A2 + x1*N2*B2)*(A*B - d*x3*y3*N*M) = 0 := by
  have e : (M*A*y3 + N*B*x3)*(A2*B2 - d*x1*y1*N2*M2) - (y1*M2*A2 + x1*N2*B2)*(A*B - d*x3*y3*N*M) =
      (-x1*x2*x2*x2*x2*y2*y2*y2*x3*y3*y3*d*d - x1*x2*x2*x2*x2*y2*x3*y3*y3*d - x1*x2*x2*x2*y2*y2*y2*y2*x3*x3*y3*d*d - x1*x2*x2*x2*y2*y2*y3*y3*y3*d + x1*x2*x2*x2*y2*y2*y3*d + x1*x2*x2*y2*y2*y2*x3*x3*x3*d + x1*x2*x2*y2*y2*y2*x3*d + x1*x2*y2*y2*y2*y2*x3*x3*y3*d + y1*x2*x2*x2*x2*y2*y2*y2*x3*x3*y3*d*d + y1*x2*x2*x2*x2*y2*x3*x3*y3*d + y1*x2*x2*x2*y2*y2*y2*y2*x3*y3*y3*d*d + y1*x2*x2*x2*y2*y2*x3*x3*x3*d + y1*x2*x2*x2*y2*y2*x3*d - y1*x2*x2*y2*y2*y2*y3*y3*y3*d + y1*x2*x2*y2*y2*y2*y3*d - y1*x2*y2*y2*y2*y2*x3*y3*y3*d) * (d*x1*x1*y1*y1 + 1 + x1*x1 - y1*y1) +
      (x1*x1*x1*x2*x2*y2*x3*y3*y3*d + x1*x1*x1*x2*y2*y2*x3*x3*y3*d - x1*x1*x1*x2*x3*x3*y3*y3*y3*d - x1*x1*x1*x2*x3*x3*y3 + x1*x1*x1*x2*y3*y3*y3 - x1*x1*x1*x2*y3 - x1*x1*x1*y2*x3*x3*x3*y3*y3*d - x1*x1*x1*y2*x3*x3*x3 + x1*x1*x1*y2*x3*y3*y3 - x1*x1*x1*y2*x3 - x1*x1*y1*x2*x2*y2*x3*x3*y3*y3*y3*d*d - x1*x1*y1*x2*x2*y2*x3*x3*y3*d + x1*x1*y1*x2*y2*y2*x3*x3*x3*y3*y3*d*d - x1*x1*y1*x2*y2*y2*x3*y3*y3*d - x1*x1*y1*x2*x3*x3*x3*y3*y3*d - x1*x1*y1*x2*x3*x3*x3 + x1*x1*y1*x2*x3*y3*y3 - x1*x1*y1*x2*x3 - x1*x1*y1*y2*x3*x3*y3*y3*y3*d - x1*x1*y1*y2*x3*x3*y3 + x1*x1*y1*y2*y3*y3*y3 - x1*x1*y1*y2*y3 + x1*y1*y1*x2*x2*y2*x3*x3*x3*y3*y3*d*d - x1*y1*y1*x2*x2*y2*x3*y3*y3*d - x1*y1*y1*x2*y2*y2*x3*x3*y3*y3*y3*d*d - x1*y1*y1*x2*y2*y2*x3*x3*y3*d + x1*y1*y1*x2*x3*x3*y3*y3*y3*d + x1*y1*y1*x2*x3*x3*y3 - x1*y1*y1*x2*y3*y3*y3 + x1*y1*y1*x2*y3 + x1*y1*y1*y2*x3*x3*x3*y3*y3*d + x1*y1*y1*y2*x3*x3*x3 - x1*y1*y1*y2*x3*y3*y3 + x1*y1*y1*y2*x3 + x1*x2*x2*y2*x3*y3*y3*d + x1*x2*y2*y2*x3*x3*y3*d - x1*x2*x3*x3*y3*y3*y3*d - x1*x2*x3*x3*y3 + x1*x2*y3*y3*y3 - x1*x2*y3 - x1*y2*x3*x3*x3*y3*y3*d - x1*y2*x3*x3*x3 + x1*y2*x3*y3*y3 - x1*y2*x3 + y1*y1*y1*x2*x2*y2*x3*x3*y3*d + y1*y1*y1*x2*y2*y2*x3*y3*y3*d + y1*y1*y1*x2*x3*x3*x3*y3*y3*d + y1*y1*y1*x2*x3*x3*x3 - y1*y1*y1*x2*x3*y3*y3 + y1*y1*y1*x2*x3 + y1*y1*y1*y2*x3*x3*y3*y3*y3*d + y1*y1*y1*y2*x3*x3*y3 - y1*y1*y1*y2*y3*y3*y3 + y1*y1*y1*y2*y3 - y1*x2*x2*y2*x3*x3*y3*d - y1*x2*y2*y2*x3*y3*y3*d - y1*x2*x3*x3*x3*y3*y3*d - y1*x2*x3*x3*x3 + y1*x2*x3*y3*y3 - y1*x2*x3 - y1*y2*x3*x3*y3*y3*y3*d - y1*y2*x3*x3*y3 + y1*y2*y3*y3*y3 - y1*y2*y3) * (d*x2*x2*y2*y2 + 1 + x2*x2 - y2*y2) +
      (x1*x1*x1*x2*x2*x2*y3 + x1*x1*x1*x2*x2*y2*x3 - x1*x1*x1*x2*y2*y2*y3 + x1*x1*x1*x2*y3 - x1*x1*x1*y2*y2*y2*x3 + x1*x1*x1*y2*x3 + x1*x1*y1*x2*x2*x2*x3 + x1*x1*y1*x2*x2*y2*y3*d + x1*x1*y1*x2*x2*y2*y3 - x1*x1*y1*x2*y2*y2*x3*d - x1*x1*y1*x2*y2*y2*x3 + x1*x1*y1*x2*x3 - x1*x1*y1*y2*y2*y2*y3 + x1*x1*y1*y2*y3 - x1*y1*y1*x2*x2*x2*y3 - x1*y1*y1*x2*x2*y2*x3*d - x1*y1*y1*x2*x2*y2*x3 + x1*y1*y1*x2*y2*y2*y3*d + x1*y1*y1*x2*y2*y2*y3 - x1*y1*y1*x2*y3 + x1*y1*y1*y2*y2*y2*x3 - x1*y1*y1*y2*x3 + x1*x2*x2*x2*y3 + x1*x2*x2*y2*x3 - x1*x2*y2*y2*y3 + x1*x2*y3 - x1*y2*y2*y2*x3 + x1*y2*x3 - y1*y1*y1*x2*x2*x2*x3 - y1*y1*y1*x2*x2*y2*y3 + y1*y1*y1*x2*y2*y2*x3 - y1*y1*y1*x2*x3 + y1*y1*y1*y2*y2*y2*y3 - y1*y1*y1*y2*y3 + y1*x2*x2*x2*x3 + y1*x2*x2*y2*y3 - y1*x2*y2*y2*x3 + y1*x2*x3 - y1*y2*y2*y2*y3 + y1*y2*y3) * (d*x3*x3*y3*y3 + 1 + x3*x3 - y3*y3) := by
    subst hN hM hA hB hN2 hM2 hA2 hB2
    clear h1 h2 h3
    grind
  rw [e, h1, h2, h3]
  grind

structure Ground (ell : Nat) [NeZero ell] where
  inv : Fin ell → Fin ell
  d : Fin ell
  i : Fin ell
  ne : (1 : Fin ell) ≠ 0
  two : (2 : Fin ell) ≠ 0
  dom : ∀ a b : Fin ell, a * b = 0 → a = 0 ∨ b = 0
  inv_mul : ∀ a : Fin ell, a ≠ 0 → a * inv a = 1
  i2 : i * i = -1
  nd : ∀ x : Fin ell, x * x ≠ d

section
variable {ell : Nat} [NeZero ell]

theorem Ground.cancel (k : Ground ell) {a b c : Fin ell} (ha : a ≠ 0) (h : a * b = a * c) : b = c := by
  have h1 : a * (b - c) = 0 := by grind
  rcases k.dom _ _ h1 with e | e
  · exact absurd e ha
  · grind

theorem Ground.mul_ne (k : Ground ell) {a b : Fin ell} (ha : a ≠ 0) (hb : b ≠ 0) : a * b ≠ 0 := fun h => by
  rcases k.dom _ _ h with e | e
  · exact ha e
  · exact hb e

def Ground.On (k : Ground ell) (x y : Fin ell) : Prop := y * y - x * x = 1 + k.d * (x * x) * (y * y)

theorem Ground.nonsq (k : Ground ell) {a b : Fin ell} (h : a * a = -k.d * (b * b)) : b = 0 := by
  refine Classical.byContradiction fun hb => ?_
  have hi := k.inv_mul b hb
  have h2 := k.i2
  exact k.nd (k.i * a * k.inv b) (by grind)

/-- The denominators are never 0. -/
theorem Ground.den (k : Ground ell) {x1 y1 x2 y2 e : Fin ell} (h1 : k.On x1 y1) (h2 : k.On x2 y2) (he : e * e = 1) : k.d * (x1 * x2 * y1 * y2) ≠ e := by
  intro ht
  unfold Ground.On at h1 h2
  have hi := k.i2
  have p1 : (k.i * x1 + e * y1) * (k.i * x1 + e * y1) = -k.d * ((k.i * x1 * y1 * (k.i * x2 + y2)) * (k.i * x1 * y1 * (k.i * x2 + y2))) := by grind
  have p2 : (k.i * x1 - e * y1) * (k.i * x1 - e * y1) = -k.d * ((k.i * x1 * y1 * (k.i * x2 - y2)) * (k.i * x1 * y1 * (k.i * x2 - y2))) := by grind
  have q1 := k.nonsq p1
  have q2 := k.nonsq p2
  have hne := k.ne
  have r : 2 * (k.i * x1 * y1 * y2) = 0 := by grind
  rcases k.dom _ _ r with a | a
  · exact k.two a
  · have : e * e = 0 := by grind
    exact hne (he.symm.trans this)

theorem Ground.den_plus (k : Ground ell) {x1 y1 x2 y2 : Fin ell} (h1 : k.On x1 y1) (h2 : k.On x2 y2) : 1 + k.d * (x1 * x2 * y1 * y2) ≠ 0 := fun h =>
  k.den h1 h2 (e := -1) (by grind) (by grind)
theorem Ground.den_minus (k : Ground ell) {x1 y1 x2 y2 : Fin ell} (h1 : k.On x1 y1) (h2 : k.On x2 y2) : 1 - k.d * (x1 * x2 * y1 * y2) ≠ 0 := fun h =>
  k.den h1 h2 (e := 1) (by grind) (by grind)

/-- A sum's two coordinates: what they are, without a quotient. -/
theorem Ground.on_sum (k : Ground ell) {x1 y1 x2 y2 x3 y3 : Fin ell} (h1 : k.On x1 y1) (h2 : k.On x2 y2) (hx : x3 * (1 + k.d * (x1 * x2 * y1 * y2)) = x1 * y2 + y1 * x2)
    (hy : y3 * (1 - k.d * (x1 * x2 * y1 * y2)) = y1 * y2 + x1 * x2) : k.On x3 y3 := by
  have n1 := k.den_plus h1 h2
  have n2 := k.den_minus h1 h2
  unfold Ground.On at *
  generalize hA : 1 + k.d * (x1 * x2 * y1 * y2) = A at *
  generalize hB : 1 - k.d * (x1 * x2 * y1 * y2) = B at *
  refine k.cancel (k.mul_ne (k.mul_ne n1 n1) (k.mul_ne n2 n2)) ?_
  have key : A * A * ((y1 * y2 + x1 * x2) * (y1 * y2 + x1 * x2)) - B * B * ((x1 * y2 + y1 * x2) * (x1 * y2 + y1 * x2)) =
      A * A * (B * B) + k.d * ((x1 * y2 + y1 * x2) * (x1 * y2 + y1 * x2)) * ((y1 * y2 + x1 * x2) * (y1 * y2 + x1 * x2)) := by
    subst hA hB
    clear hx hy n1 n2
    grind
  rw [← hx, ← hy] at key
  clear hx hy hA hB h1 h2 n1 n2
  grind


structure Pnt (k : Ground ell) where
  x : Fin ell
  y : Fin ell
  on : k.On x y

variable {k : Ground ell}
theorem Pnt.ext {p q : Pnt k} (hx : p.x = q.x) (hy : p.y = q.y) : p = q := by
  cases p; cases q
  simp only at hx hy
  subst hx hy
  rfl

def Pnt.dx (p q : Pnt k) : Fin ell := 1 + k.d * (p.x * q.x * p.y * q.y)
def Pnt.dy (p q : Pnt k) : Fin ell := 1 - k.d * (p.x * q.x * p.y * q.y)
theorem Pnt.dx_ne (p q : Pnt k) : p.dx q ≠ 0 := k.den_plus p.on q.on
theorem Pnt.dy_ne (p q : Pnt k) : p.dy q ≠ 0 := k.den_minus p.on q.on

theorem Ground.div_mul (k : Ground ell) {a b : Fin ell} (h : b ≠ 0) : a * k.inv b * b = a := by
  have := k.inv_mul b h
  grind

def Pnt.add (p q : Pnt k) : Pnt k :=
  ⟨(p.x * q.y + p.y * q.x) * k.inv (p.dx q), (p.y * q.y + p.x * q.x) * k.inv (p.dy q), k.on_sum p.on q.on (k.div_mul (p.dx_ne q)) (k.div_mul (p.dy_ne q))⟩

theorem Pnt.add_x (p q : Pnt k) : (p.add q).x * p.dx q = p.x * q.y + p.y * q.x := k.div_mul (p.dx_ne q)
theorem Pnt.add_y (p q : Pnt k) : (p.add q).y * p.dy q = p.y * q.y + p.x * q.x := k.div_mul (p.dy_ne q)

theorem Pnt.eq_add {p q s : Pnt k} (hx : s.x * p.dx q = p.x * q.y + p.y * q.x) (hy : s.y * p.dy q = p.y * q.y + p.x * q.x) : s = p.add q := by
  refine Pnt.ext (k.cancel (p.dx_ne q) ?_) (k.cancel (p.dy_ne q) ?_)
  · have := p.add_x q
    grind
  · have := p.add_y q
    grind

def Pnt.zero : Pnt k := ⟨0, 1, by unfold Ground.On; grind⟩
def Pnt.neg (p : Pnt k) : Pnt k := ⟨-p.x, p.y, by have := p.on; unfold Ground.On at *; grind⟩

theorem Pnt.add_comm (p q : Pnt k) : p.add q = q.add p := by
  refine Pnt.eq_add ?_ ?_
  · have := p.add_x q
    unfold Pnt.dx at *
    grind
  · have := p.add_y q
    unfold Pnt.dy at *
    grind

theorem Pnt.zero_add (p : Pnt k) : Pnt.zero.add p = p := by
  refine (Pnt.eq_add ?_ ?_).symm <;> simp only [Pnt.dx, Pnt.dy, Pnt.zero] <;> grind

theorem Pnt.neg_add (p : Pnt k) : p.neg.add p = Pnt.zero := by
  have := p.on
  unfold Ground.On at this
  refine (Pnt.eq_add ?_ ?_).symm <;> simp only [Pnt.dx, Pnt.dy, Pnt.zero, Pnt.neg] <;> grind

theorem Pnt.on' (p : Pnt k) : k.d * p.x * p.x * p.y * p.y + 1 + p.x * p.x - p.y * p.y = 0 := by
  have := p.on
  unfold Ground.On at this
  grind

theorem Ground.zero_of (k : Ground ell) {a b : Fin ell} (ha : a ≠ 0) (h : a * b = 0) : b = 0 := by
  rcases k.dom _ _ h with e | e
  · exact absurd e ha
  · exact e

theorem fin_x {d x1 y1 x3 y3 a b c e A B A2 B2 : Fin ell}
    (K : (a * A * B * y3 + b * B * A * x3) * (A2 * B2 + d * x1 * y1 * (c * A2) * (e * B2)) - (x1 * (e * B2) * A2 + y1 * (c * A2) * B2) * (A * B + d * x3 * y3 * (a * A) * (b * B)) = 0) :
    A * B * (A2 * B2) * ((a * y3 + b * x3) * (1 + d * (x1 * c * y1 * e)) - (x1 * e + y1 * c) * (1 + d * (a * x3 * b * y3))) = 0 := by
  rw [← K]; clear K; grind
theorem fin_y {d x1 y1 x3 y3 a b c e A B A2 B2 : Fin ell}
    (K : (b * B * A * y3 + a * A * B * x3) * (A2 * B2 - d * x1 * y1 * (c * A2) * (e * B2)) - (y1 * (e * B2) * A2 + x1 * (c * A2) * B2) * (A * B - d * x3 * y3 * (a * A) * (b * B)) = 0) :
    A * B * (A2 * B2) * ((b * y3 + a * x3) * (1 - d * (x1 * c * y1 * e)) - (y1 * e + x1 * c) * (1 - d * (a * x3 * b * y3))) = 0 := by
  rw [← K]; clear K; grind

theorem Pnt.add_assoc (p q r : Pnt k) : (p.add q).add r = p.add (q.add r) := by
  have nz := k.mul_ne (k.mul_ne (p.dx_ne q) (p.dy_ne q)) (k.mul_ne (q.dx_ne r) (q.dy_ne r))
  have eA : p.dx q = 1 + k.d * p.x * p.y * q.x * q.y := by unfold Pnt.dx; grind
  have eB : p.dy q = 1 - k.d * p.x * p.y * q.x * q.y := by unfold Pnt.dy; grind
  have eC : q.dx r = 1 + k.d * q.x * q.y * r.x * r.y := by unfold Pnt.dx; grind
  have eD : q.dy r = 1 - k.d * q.x * q.y * r.x * r.y := by unfold Pnt.dy; grind
  have kx := assoc_x (x1 := p.x) (y1 := p.y) (x2 := q.x) (y2 := q.y) (x3 := r.x) (y3 := r.y) (d := k.d) (p.add_x q) (p.add_y q) eA eB (q.add_x r) (q.add_y r) eC eD p.on' q.on' r.on'
  have ky := assoc_y (x1 := p.x) (y1 := p.y) (x2 := q.x) (y2 := q.y) (x3 := r.x) (y3 := r.y) (d := k.d) (p.add_x q) (p.add_y q) eA eB (q.add_x r) (q.add_y r) eC eD p.on' q.on' r.on'
  have zx := k.zero_of nz (fin_x kx)
  have zy := k.zero_of nz (fin_y ky)
  have he := (p.add q).add_x r
  have hf := (p.add q).add_y r
  refine Pnt.eq_add (k.cancel ((p.add q).dx_ne r) ?_) (k.cancel ((p.add q).dy_ne r) ?_)
  · clear kx ky eA eB eC eD zy hf nz
    unfold Pnt.dx at *
    generalize ((p.add q).add r).x = u at *
    generalize (p.add q).x = a at *
    generalize (p.add q).y = b at *
    generalize (q.add r).x = c at *
    generalize (q.add r).y = e at *
    grind
  · clear kx ky eA eB eC eD zx he nz
    unfold Pnt.dy at *
    generalize ((p.add q).add r).y = u at *
    generalize (p.add q).x = a at *
    generalize (p.add q).y = b at *
    generalize (q.add r).x = c at *
    generalize (q.add r).y = e at *
    grind

/-! multiples -/
def Pnt.smul : Nat → Pnt k → Pnt k
  | 0, _ => Pnt.zero
  | n + 1, p => (Pnt.smul n p).add p

theorem Pnt.add_zero (p : Pnt k) : p.add Pnt.zero = p := by rw [Pnt.add_comm, Pnt.zero_add]
theorem Pnt.smul_add (m n : Nat) (p : Pnt k) : Pnt.smul (m + n) p = (Pnt.smul m p).add (Pnt.smul n p) := by
  induction n with
  | zero => exact (Pnt.add_zero _).symm
  | succ n ih => rw [← Nat.add_assoc]; show (Pnt.smul (m + n) p).add p = _; rw [ih, Pnt.add_assoc]; rfl
theorem Pnt.smul_one (p : Pnt k) : Pnt.smul 1 p = p := Pnt.zero_add p
theorem Pnt.smul_zero (n : Nat) : Pnt.smul n (Pnt.zero : Pnt k) = Pnt.zero := by
  induction n with
  | zero => rfl
  | succ n ih => show (Pnt.smul n Pnt.zero).add Pnt.zero = _; rw [ih, Pnt.add_zero]
theorem Pnt.smul_mul (m n : Nat) (p : Pnt k) : Pnt.smul (m * n) p = Pnt.smul m (Pnt.smul n p) := by
  induction m with
  | zero => rw [Nat.zero_mul]; rfl
  | succ m ih => rw [Nat.succ_mul, Pnt.smul_add, ih]; rfl
theorem Pnt.add_swap (p q r s : Pnt k) : (p.add q).add (r.add s) = (p.add r).add (q.add s) := by
  rw [Pnt.add_assoc, Pnt.add_assoc, ← Pnt.add_assoc q r s, Pnt.add_comm q r, Pnt.add_assoc r q s]
theorem Pnt.smul_dist (n : Nat) (p q : Pnt k) : Pnt.smul n (p.add q) = (Pnt.smul n p).add (Pnt.smul n q) := by
  induction n with
  | zero => exact (Pnt.zero_add _).symm
  | succ n ih => show (Pnt.smul n (p.add q)).add (p.add q) = _; rw [ih, Pnt.add_swap]; rfl
theorem Pnt.add_cancel {p q r : Pnt k} (h : p.add q = p.add r) : q = r := by
  have : p.neg.add (p.add q) = p.neg.add (p.add r) := by rw [h]
  rwa [← Pnt.add_assoc, ← Pnt.add_assoc, Pnt.neg_add, Pnt.zero_add, Pnt.zero_add] at this

/-! halves; the two points of one Y -/
theorem Pnt.half (p : Pnt k) (h : p.add p = Pnt.zero) : p = Pnt.zero ∨ (p.x = 0 ∧ p.y = -1) := by
  have hx := p.add_x p
  have hy := p.add_y p
  rw [h] at hx hy
  have on := p.on
  unfold Ground.On at on
  have hx : 0 * p.dx p = p.x * p.y + p.y * p.x := hx
  have hy : 1 * p.dy p = p.y * p.y + p.x * p.x := hy
  unfold Pnt.dy at hy
  have h2 : (2 : Fin ell) * (p.x * p.y) = 0 := by grind
  have two := k.two
  rcases k.dom _ _ h2 with e | e
  · exact absurd e two
  rcases k.dom _ _ e with e | e
  · have h3 : (p.y - 1) * (p.y + 1) = 0 := by grind
    rcases k.dom _ _ h3 with f | f
    · left
      refine Pnt.ext e ?_
      show p.y = 1
      grind
    · right
      exact ⟨e, by grind⟩
  · exfalso
    refine two ?_
    rw [e] at hy on
    clear hx h2 e h
    grind

theorem Pnt.eighth (p q : Pnt k) (hq : q.y = 0) (h : p.add p = q) : (k.d * (p.y * p.y) + 1) * (k.d * (p.y * p.y) + 1) = k.d + 1 := by
  have hy := p.add_y p
  rw [h, hq] at hy
  have on := p.on
  unfold Ground.On at on
  grind

theorem Ground.x_of_y (k : Ground ell) {x x' y : Fin ell} (h : k.On x y) (h' : k.On x' y) : x = x' ∨ x = -x' := by
  unfold Ground.On at h h'
  have hne : 1 + k.d * (y * y) ≠ 0 := by
    intro e
    have i2 := k.i2
    exact k.nd k.i (by grind)
  have h1 : (1 + k.d * (y * y)) * ((x - x') * (x + x')) = 0 := by grind
  rcases k.dom _ _ (k.zero_of hne h1) with e | e
  · left; grind
  · right; grind
theorem Ground.y_den (k : Ground ell) (y : Fin ell) : 1 + k.d * (y * y) ≠ 0 := by
  intro e
  have i2 := k.i2
  by_cases hy : y = 0
  · have := k.ne
    rw [hy] at e
    grind
  · have hi := k.inv_mul y hy
    exact k.nd (k.i * k.inv y) (by grind)
theorem Ground.neg_zero (k : Ground ell) : -(0 : Fin ell) = 0 := by have := k.ne; grind


/-! points X / Z, Y / Z -/
structure Scaled (x y z : Fin ell) (p : Pnt k) : Prop where
  z0 : z ≠ 0
  hx : x = p.x * z
  hy : y = p.y * z

theorem Scaled.one (p : Pnt k) : Scaled p.x p.y 1 p := ⟨k.ne, by grind, by grind⟩
theorem Scaled.tog {x y z x' y' z' : Fin ell} {p q : Pnt k} (h : Scaled x y z p) (h' : Scaled x' y' z' q) :
    Scaled (z * z' * (x * y' + y * x') * (z * z' * (z * z') - k.d * (x * x' * (y * y')))) (z * z' * (x * x' + y * y') * (z * z' * (z * z') + k.d * (x * x' * (y * y'))))
      ((z * z' * (z * z') + k.d * (x * x' * (y * y'))) * (z * z' * (z * z') - k.d * (x * x' * (y * y')))) (p.add q) := by
  have ax := p.add_x q
  have ay := p.add_y q
  have e1 : z * z' * (z * z') + k.d * (x * x' * (y * y')) = z * z' * (z * z') * p.dx q := by
    rw [h.hx, h.hy, h'.hx, h'.hy]
    unfold Pnt.dx
    clear ax ay
    grind
  have e2 : z * z' * (z * z') - k.d * (x * x' * (y * y')) = z * z' * (z * z') * p.dy q := by
    rw [h.hx, h.hy, h'.hx, h'.hy]
    unfold Pnt.dy
    clear ax ay
    grind
  have zz := k.mul_ne (k.mul_ne h.z0 h'.z0) (k.mul_ne h.z0 h'.z0)
  have n1 := k.mul_ne zz (p.dx_ne q)
  have n2 := k.mul_ne zz (p.dy_ne q)
  rw [e1, e2]
  refine ⟨k.mul_ne n1 n2, ?_, ?_⟩
  · have e3 : x * y' + y * x' = z * z' * ((p.add q).x * p.dx q) := by
      rw [h.hx, h.hy, h'.hx, h'.hy, ax]
      clear ax ay e1 e2
      grind
    rw [e3]
    generalize p.dx q = A
    generalize p.dy q = B
    clear ax ay e1 e2 e3
    grind
  · have e3 : x * x' + y * y' = z * z' * ((p.add q).y * p.dy q) := by
      rw [h.hx, h.hy, h'.hx, h'.hy, ay]
      clear ax ay e1 e2
      grind
    rw [e3]
    generalize p.dx q = A
    generalize p.dy q = B
    clear ax ay e1 e2 e3
    grind
theorem Scaled.out {x y z : Fin ell} {p : Pnt k} (h : Scaled x y z p) : x * k.inv z = p.x ∧ y * k.inv z = p.y := by
  have hi := k.inv_mul z h.z0
  have h1 := h.hx
  have h2 := h.hy
  exact ⟨by grind, by grind⟩

end
end Obol
