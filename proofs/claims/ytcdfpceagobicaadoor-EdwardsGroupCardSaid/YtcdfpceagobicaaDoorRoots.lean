import Derived.Test.YtcdfpceagobicaaDoorSqrt
import Derived.Test.YtcdfpceagobicaaDoorPoint
/- The root that isn't above R / 2; the loops that find it. -/
namespace Obol

theorem R_odd : R % 2 = 1 := by decide +kernel
theorem half_unique {x y : Nat} (hx : 2 * x ≤ R) (hy : 2 * y ≤ R) (h : x * x % R = y * y % R) : x = y := by
  have h1 := R_two
  have h2 := R_odd
  rcases two_roots (x := x) (y := y) (by omega) (by omega) h with e | e
  · exact e
  · omega
theorem half_exists {a : Nat} (h : sqB a = true) : ∃ x, 2 * x ≤ R ∧ x * x % R = a % R := by
  obtain ⟨x, hx, e⟩ := (sqB_iff a).1 h
  by_cases h2 : 2 * x ≤ R
  · exact ⟨x, h2, e⟩
  · refine ⟨R - x, by omega, ?_⟩
    rw [← e]
    have h3 : (R - x) * (R - x) + (2 * R * x) = R * R + x * x := by
      obtain ⟨k, hk⟩ := Nat.exists_eq_add_of_le (Nat.le_of_lt hx)
      rw [hk, Nat.add_sub_cancel_left]
      grind
    have h4 : ((R - x) * (R - x) + R * (2 * x)) % R = (x * x + R * R) % R := by
      rw [show R * (2 * x) = 2 * R * x by grind, h3, Nat.add_comm]
    rw [Nat.add_mul_mod_self_left, Nat.add_mul_mod_self_left] at h4
    exact h4
open Classical in
noncomputable def rootN : Nat → Nat := (shut fun (a : Nat) => if h : sqB a = true then choose (half_exists h) else 0).1
theorem rootN_ok {a : Nat} (h : sqB a = true) : 2 * rootN a ≤ R ∧ rootN a * rootN a % R = a % R := by
  have e : rootN a = _ := congrFun (shut fun (a : Nat) => if h : sqB a = true then Classical.choose (half_exists h) else 0).2 a
  rw [e, dif_pos h]
  exact Classical.choose_spec (half_exists h)
theorem rootN_is {a x : Nat} (h : sqB a = true) (hx : 2 * x ≤ R) (e : x * x % R = a % R) : x = rootN a :=
  half_unique hx (rootN_ok h).1 (e.trans (rootN_ok h).2.symm)

noncomputable def powR : Nat → Nat → Nat := (shut fun a e : Nat => a ^ e % R).1
theorem powR_eq (a e : Nat) : powR a e = a ^ e % R := congrFun (congrFun (shut fun a e : Nat => a ^ e % R).2 a) e

/-- What is known ahead of each round. -/
structure RootI (a : Nat) (c t x w : Int) : Prop where
  c0 : 0 ≤ c
  t0 : 0 ≤ t
  x0 : 0 ≤ x
  w0 : 1 ≤ w
  w1 : w ≤ 18
  ts : TS a c.toNat t.toNat x.toNat w.toNat
structure RootS (t w : Nat) (i s : Int) : Prop where
  i0 : 0 ≤ i
  i1 : i < w
  s0 : 0 ≤ s
  eq : s.toNat = t ^ 2 ^ i.toNat % R
  no : ∀ j, j < i.toNat → t ^ 2 ^ j % R ≠ 1
structure RootB (c : Nat) (n b j : Int) : Prop where
  j0 : 0 ≤ j
  j1 : j ≤ n
  b0 : 0 ≤ b
  eq : b.toNat = c ^ 2 ^ j.toNat % R

theorem RootI.start {a : Int} (h : a.toNat ^ ((R - 1) / 2) % R = 1) :
    RootI a.toNat ((powR 3 oddR : Nat) : Int) ((powR a.toNat oddR : Nat) : Int) ((powR a.toNat oddH : Nat) : Int) 18 := by
  refine ⟨by omega, by omega, by omega, by omega, by omega, ?_⟩
  rw [Int.toNat_natCast, Int.toNat_natCast, Int.toNat_natCast, powR_eq, powR_eq, powR_eq]
  exact TS.init rfl h
theorem RootI.inner {a : Nat} {c t x w : Int} (h : RootI a c t x w) : RootS t.toNat w.toNat 0 t := by
  have := h.ts.w_pos
  refine ⟨by omega, by omega, h.t0, ?_, fun j hj => by omega⟩
  rw [show (0 : Int).toNat = 0 from rfl, Nat.pow_zero, Nat.pow_one, Nat.mod_eq_of_lt h.ts.t_lt]
theorem RootS.step {a : Nat} {c t x w i s : Int} (h : RootI a c t x w) (k : RootS t.toNat w.toNat i s) (hs : s ≠ 1) : RootS t.toNat w.toNat (i + 1) ((mulR s.toNat s.toNat : Nat) : Int) := by
  have i0 := k.i0
  have i1 := k.i1
  have s0 := k.s0
  have w0 := h.w0
  have he := k.eq
  have hne : t.toNat ^ 2 ^ i.toNat % R ≠ 1 := by rw [← he]; omega
  refine ⟨by omega, ?_, by omega, ?_, ?_⟩
  · refine Classical.byContradiction fun hn => hne ?_
    have : i.toNat = w.toNat - 1 := by omega
    rw [this]
    exact h.ts.tp
  · rw [Int.toNat_natCast, mulR_eq, mulQ, he, sq_pow, show (i + 1).toNat = i.toNat + 1 by omega]
  · intro j hj
    by_cases e : j = i.toNat
    · rw [e]; exact hne
    · exact k.no j (by omega)
theorem RootB.start {a : Nat} {c t x w n : Int} (h : RootI a c t x w) (hn : 0 ≤ n) : RootB c.toNat n c 0 := by
  refine ⟨by omega, hn, h.c0, ?_⟩
  rw [show (0 : Int).toNat = 0 from rfl, Nat.pow_zero, Nat.pow_one, Nat.mod_eq_of_lt h.ts.c_lt]
theorem RootB.step {c : Nat} {n b j : Int} (h : RootB c n b j) (hj : j < n) : RootB c n ((mulR b.toNat b.toNat : Nat) : Int) (j + 1) := by
  have j0 := h.j0
  refine ⟨by omega, by omega, by omega, ?_⟩
  rw [Int.toNat_natCast, mulR_eq, mulQ, h.eq, sq_pow, show (j + 1).toNat = j.toNat + 1 by omega]
theorem RootI.step {a : Nat} {c t x w i b j n : Int} (h : RootI a c t x w) (k : RootS t.toNat w.toNat i 1) (ht : t ≠ 1) (hn : n = w - i - 1) (g : RootB c.toNat n b j) (hj : ¬ j < n) :
    RootI a ((mulR b.toNat b.toNat : Nat) : Int) ((mulR t.toNat (mulR b.toNat b.toNat) : Nat) : Int) ((mulR x.toNat b.toNat : Nat) : Int) i ∧ i < w := by
  have t0 := h.t0
  have w0 := h.w0
  have w1 := h.w1
  have i0 := k.i0
  have i1 := k.i1
  have j1 := g.j1
  have he := k.eq
  have h0 : 0 < i.toNat := by
    refine Nat.pos_of_ne_zero fun e => ht ?_
    rw [e, Nat.pow_zero, Nat.pow_one, Nat.mod_eq_of_lt h.ts.t_lt] at he
    omega
  have hb : b.toNat = c.toNat ^ 2 ^ (w.toNat - i.toNat - 1) % R := by
    rw [g.eq]
    congr 2
    congr 1
    omega
  obtain ⟨hlt, ts⟩ := h.ts.step h0 (by rw [← he]; rfl) k.no hb
  refine ⟨⟨by omega, by omega, by omega, by omega, by omega, ?_⟩, by omega⟩
  rw [Int.toNat_natCast, Int.toNat_natCast, Int.toNat_natCast, mulR_eq]
  exact ts
theorem RootI.done {a : Nat} {c x w : Int} (h : RootI a c 1 x w) (ha : sqB a = true) (h0 : a % R ≠ 0) : x < R ∧ (if x < R - x then x else R - x) = ((rootN a : Nat) : Int) := by
  have x0 := h.x0
  have xl := h.ts.x_lt
  have hr := h.ts.root
  rw [show (1 : Int).toNat = 1 from rfl, Nat.mul_one] at hr
  have hp : x.toNat ≠ 0 := fun e => by
    rw [e, Nat.zero_mul, Nat.zero_mod] at hr
    exact h0 hr.symm
  have ho := rootN_ok ha
  refine ⟨by omega, ?_⟩
  rcases two_roots (x := x.toNat) (y := rootN a) xl (by have := R_two; omega) (hr.trans ho.2.symm) with e | e
  · split <;> omega
  · split <;> omega

end Obol
