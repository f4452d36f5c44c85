import Derived.Test.YtiffendfojhapaaDoorZWsch3
set_option linter.unusedVariables false
set_option linter.unusedSimpArgs false
/- Plain law: signatures hold; turned keys; two signatures of one nonce tell the key. -/
namespace Obol

/-! remainders -/
theorem add_cancel_mod {m a b u : Nat} (ha : a < m) (hb : b < m) (h : (a + u) % m = (b + u) % m) : a = b := by
  have h1 := Nat.div_add_mod (a + u) m
  have h2 := Nat.div_add_mod (b + u) m
  have l1 := Nat.mod_lt (a + u) (show 0 < m by omega)
  rcases Nat.lt_trichotomy ((a + u) / m) ((b + u) / m) with h3 | h3 | h3
  · have h4 : m * ((a + u) / m + 1) ≤ m * ((b + u) / m) := Nat.mul_le_mul_left _ h3
    rw [Nat.mul_add, Nat.mul_one] at h4
    omega
  · rw [h3] at h1; omega
  · have h4 : m * ((b + u) / m + 1) ≤ m * ((a + u) / m) := Nat.mul_le_mul_left _ h3
    rw [Nat.mul_add, Nat.mul_one] at h4
    omega
theorem sub_add_mod {m s u : Nat} (hu : u ≤ m) : ((s + (m - u)) % m + u) % m = s % m := by
  rw [Nat.add_mod, Nat.mod_mod, ← Nat.add_mod, show s + (m - u) + u = s + m by omega, Nat.add_mod_right]
theorem tell {m k n x y : Nat} (hm : 2 < m) (fermat : ∀ a, a % m ≠ 0 → a ^ (m - 1) % m = 1) (hk : k < m) (hx : x < m) (hy : y < m) (hne : x ≠ y) :
    mulM m (addM m (addM m n (mulM m x k)) (m - addM m n (mulM m y k))) (powM m (addM m x (m - y)) (m - 2)) = k := by
  have hu : addM m n (mulM m y k) < m := Nat.mod_lt _ (by omega)
  have hd0 : addM m x (m - y) ≠ 0 := by
    unfold addM
    intro h
    have := sub_add_mod (m := m) (s := x) (u := y) (by omega)
    rw [h, Nat.zero_add, Nat.mod_eq_of_lt hx, Nat.mod_eq_of_lt hy] at this
    exact hne this.symm
  have hdl : addM m x (m - y) < m := Nat.mod_lt _ (by omega)
  have hz : addM m (addM m n (mulM m x k)) (m - addM m n (mulM m y k)) = addM m x (m - y) * k % m := by
    refine add_cancel_mod (m := m) (u := addM m n (mulM m y k)) (Nat.mod_lt _ (by omega)) (Nat.mod_lt _ (by omega)) ?_
    have e1 : (addM m (addM m n (mulM m x k)) (m - addM m n (mulM m y k)) + addM m n (mulM m y k)) % m = (n + x * k) % m := by
      have h := sub_add_mod (m := m) (s := addM m n (mulM m x k)) (u := addM m n (mulM m y k)) (by omega)
      unfold addM mulM at *
      rw [h, Nat.mod_mod, Nat.add_mod, Nat.mod_mod, ← Nat.add_mod]
    have e2 : (addM m x (m - y) * k % m + addM m n (mulM m y k)) % m = (n + x * k) % m := by
      have h := sub_add_mod (m := m) (s := x) (u := y) (by omega)
      have e3 : addM m n (mulM m y k) = (n + y * k) % m := by
        unfold addM mulM
        rw [Nat.add_mod, Nat.mod_mod, ← Nat.add_mod]
      rw [e3, ← Nat.add_mod, show addM m x (m - y) * k + (n + y * k) = n + (addM m x (m - y) + y) * k by rw [Nat.add_mul]; omega,
        Nat.add_mod, Nat.mul_mod, show (addM m x (m - y) + y) % m = x % m from h, ← Nat.mul_mod, ← Nat.add_mod]
    rw [e1, e2]
  rw [hz]
  have hf := fermat (addM m x (m - y)) (by rw [Nat.mod_eq_of_lt hdl]; exact hd0)
  generalize addM m x (m - y) = d at hf
  unfold mulM powM
  rw [← Nat.mul_mod, show d * k * d ^ (m - 2) = k * d ^ (m - 1) by rw [show m - 1 = m - 2 + 1 by omega, Nat.pow_succ, Nat.mul_comm d k, Nat.mul_assoc, Nat.mul_comm d], Nat.mul_mod, hf, Nat.mul_one, Nat.mod_mod, Nat.mod_eq_of_lt hk]

/-! points of order S -/
theorem SM_def : (72057593894066549 : Nat) = S := by decide +kernel
theorem SM_pos : 0 < (72057593894066549 : Nat) := by decide
theorem smulG_S (k : Nat) : Pnt.smul 72057593894066549 (Pnt.smul k G) = Pnt.zero := by
  rw [← Pnt.smul_mul, Nat.mul_comm, Pnt.smul_mul, SM_def, G_S, Pnt.smul_zero]
theorem smul_red {p : Pt} {m : Nat} (h : Pnt.smul m p = Pnt.zero) (a : Nat) : Pnt.smul (a % m) p = Pnt.smul a p := by
  have e : a = a / m * m + a % m := by rw [Nat.mul_comm]; exact (Nat.div_add_mod a m).symm
  have h2 : Pnt.smul (a / m * m + a % m) p = Pnt.smul (a % m) p := by rw [Pnt.smul_add, Pnt.smul_mul, h, Pnt.smul_zero, Pnt.zero_add]
  rw [← e] at h2
  exact h2.symm
theorem smul_add_S {p q : Pt} {m : Nat} (h1 : Pnt.smul m p = Pnt.zero) (h2 : Pnt.smul m q = Pnt.zero) : Pnt.smul m (p.add q) = Pnt.zero := by
  rw [Pnt.smul_dist, h1, h2, Pnt.zero_add]
theorem GS : Pnt.smul 72057593894066549 G = Pnt.zero := by rw [SM_def]; exact G_S
theorem sig_eq (n q k : Nat) : Pnt.smul (sigZ n q k) G = (Pnt.smul n G).add (Pnt.smul q (Pnt.smul k G)) := by
  unfold sigZ addM mulM
  rw [smul_red GS, Pnt.smul_add, smul_red GS, Pnt.smul_mul]
theorem turn_eq (k t : Nat) : Pnt.smul (addM 72057593894066549 k t) G = (Pnt.smul k G).add (Pnt.smul t G) := by
  unfold addM
  rw [smul_red GS, Pnt.smul_add]
theorem sigZ_lt (n q k : Nat) : sigZ n q k < 72057593894066549 := Nat.mod_lt _ SM_pos
theorem keyG_ne {k : Nat} (h1 : 1 ≤ k) (h2 : k < 72057593894066549) : Pnt.smul k G ≠ Pnt.zero := order_S G_S G_ne k h1 (by rw [← SM_def]; exact h2)
theorem smul_lt_inj {p : Pt} (hS : Pnt.smul 72057593894066549 p = Pnt.zero) (hp : p ≠ Pnt.zero) {a b : Nat} (hb : b < 72057593894066549) (hab : a < b) : Pnt.smul a p ≠ Pnt.smul b p := fun h => by
  have e : b = a + (b - a) := by omega
  rw [e, Pnt.smul_add] at h
  have h2 : (Pnt.smul a p).add Pnt.zero = (Pnt.smul a p).add (Pnt.smul (b - a) p) := by rw [Pnt.add_zero]; exact h
  exact order_S (by rw [← SM_def]; exact hS) hp (b - a) (by omega) (by rw [← SM_def]; omega) (Pnt.add_cancel h2).symm
theorem smul_ne {p : Pt} (hS : Pnt.smul 72057593894066549 p = Pnt.zero) (hp : p ≠ Pnt.zero) {a b : Nat} (ha : a < 72057593894066549) (hb : b < 72057593894066549) (hab : a ≠ b) : Pnt.smul a p ≠ Pnt.smul b p := by
  rcases Nat.lt_or_ge a b with h | h
  · exact smul_lt_inj hS hp hb h
  · exact (smul_lt_inj hS hp ha (by omega)).symm
theorem tellS {k n x y : Nat} (hk : k < 72057593894066549) (hx : x < 72057593894066549) (hy : y < 72057593894066549) (hne : x ≠ y) :
    mulM 72057593894066549 (addM 72057593894066549 (sigZ n x k) (72057593894066549 - sigZ n y k)) (powM 72057593894066549 (addM 72057593894066549 x (72057593894066549 - y)) (72057593894066549 - 2)) = k :=
  tell (by decide) (fun a h => by rw [SM_def] at h ⊢; exact rootS.fermat a h) hk hx hy hne

/-! the examples -/
theorem G5_n : (Pnt.smul 5 G).n = (54216708281467337, 66297777173597027) := smul_dec 60 (by decide +kernel) (by rw [G_n]; exact of_decide_eq_true (by decide +kernel))
theorem G7_n : (Pnt.smul 7 G).n = (252582691122900600, 251385050685503184) := smul_dec 60 (by decide +kernel) (by rw [G_n]; exact of_decide_eq_true (by decide +kernel))
theorem ques_ne : quesP (Pnt.smul 7 G) (Pnt.smul 5 G) [109] ≠ quesP (Pnt.smul 7 G) (Pnt.smul 5 G) [110] := by
  unfold quesP
  rw [G5_n, G7_n]
  unfold quesN
  decide +kernel

end Obol
