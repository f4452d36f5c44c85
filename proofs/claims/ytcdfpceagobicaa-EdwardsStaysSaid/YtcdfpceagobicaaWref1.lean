import Derived.Test.YtcdfpceagobicaaWed3
/- Walks: the reference of layer 1: sums, products, powers bit by bit. -/
namespace Go.Proofs.Ytcdfpceagobicaa
open Go.RowKit

theorem end_add1 (m x y : Int) (h0 : 1 ≤ m) (h1 : m ≤ 4611686018427387904) (ha : 0 ≤ x) (hb : 0 ≤ y) (hx : x < m) (hy : y < m) :
    (if m - y ≤ x then x - (m - y) else x + y) = ((Obol.addM m.toNat x.toNat y.toNat : Nat) : Int) := by
  have := Obol.add_mod_by (m := m.toNat) (a := x.toNat) (b := y.toNat) (by omega) (by omega)
  rw [Obol.addM, ← this]
  split
  · rw [if_pos (by omega)]; omega
  · rw [if_neg (by omega)]; omega
theorem addM_mod (m a b : Nat) : Obol.addM m (a % m) (b % m) = Obol.addM m a b := by unfold Obol.addM; rw [← Nat.add_mod]
theorem toNat_mod {m a : Int} (ha : 0 ≤ a) (h0 : 1 ≤ m) : (a % m).toNat = a.toNat % m.toNat := Int.toNat_emod ha (by omega)

theorem r1Add (m a b : Int) (h0 : 1 ≤ m) (h1 : m ≤ 4611686018427387904) (ha : 0 ≤ a) (hb : 0 ≤ b) (w : World) :
    Calls Try.prog 39 #[.int .u64 m, .int .u64 a, .int .u64 b] w fun e w' => e = .returned (.int .u64 ((Obol.addM m.toNat a.toNat b.toNat : Nat) : Int)) ∧ w' = w := by
  have h2 := Int.emod_nonneg a (show m ≠ 0 by omega)
  have h3 := Int.emod_lt_of_pos a (show 0 < m by omega)
  have h4 := Int.emod_nonneg b (show m ≠ 0 by omega)
  have h5 := Int.emod_lt_of_pos b (show 0 < m by omega)
  have he := end_add1 m (a % m) (b % m) h0 h1 h2 h4 h3 h5
  rw [toNat_mod ha h0, toNat_mod hb h0, addM_mod] at he
  have e1 : a.tmod m = a % m := Int.tmod_eq_emod_of_nonneg ha
  have e2 : b.tmod m = b % m := Int.tmod_eq_emod_of_nonneg hb
  obtain ⟨x, hx⟩ : ∃ x : Int, x = a % m := ⟨_, rfl⟩
  obtain ⟨y, hy⟩ : ∃ y : Int, y = b % m := ⟨_, rfl⟩
  rw [← hx, ← hy] at he
  rw [← hx] at e1 h2 h3
  rw [← hy] at e2 h4 h5
  replace hx := hx.symm
  replace hy := hy.symm
  by_cases hc : m - y ≤ x
  · rw [if_pos hc] at he
    have HE := Lib.hid he
    clear he
    go_enter Try.func39, Try.ntmps39
    go_wp2
    go_ret
    exact ⟨ret_u64 HE.out, rfl⟩
  · rw [if_neg hc] at he
    have HE := Lib.hid he
    clear he
    go_enter Try.func39, Try.ntmps39
    go_wp2
    go_ret
    exact ⟨ret_u64 HE.out, rfl⟩

/-- What is known ahead of a product's next bit. -/
structure R1I (m x y : Nat) (O i : Int) : Prop where
  i0 : 0 ≤ i
  i1 : i ≤ 64
  o0 : 0 ≤ O
  o1 : O < m
  eq : O.toNat = y / 2 ^ (64 - i.toNat) * x % m

/-- The next bit of a number, from the highest on. -/
def bitI (y i : Int) : Int := y / 2 ^ (63 - i).toNat % 2
theorem bitI_01 (y i : Int) : bitI y i = 0 ∨ bitI y i = 1 := by unfold bitI; omega
theorem bitI_toNat (y i : Int) (hy : 0 ≤ y) (h0 : 0 ≤ i) (h1 : i < 64) : bitI y i = ((y.toNat / 2 ^ (63 - i.toNat) % 2 : Nat) : Int) := by
  unfold bitI
  rw [show (63 - i).toNat = 63 - i.toNat by omega, Int.natCast_emod, Int.natCast_ediv, Int.toNat_of_nonneg hy]
  rfl
theorem bitI_bits (y i : Int) (hy : 0 ≤ y) (hy1 : y ≤ 18446744073709551615) : bits .and .u64 (y / 2 ^ (63 - i).toNat) 1 = bitI y i := by
  have h2 : (1 : Int) ≤ 2 ^ (63 - i).toNat := Int.add_one_le_of_lt (Int.pow_pos (by omega))
  have h0 : 0 ≤ y / 2 ^ (63 - i).toNat := Int.ediv_nonneg hy (by omega)
  have h1 : y / 2 ^ (63 - i).toNat ≤ y := Int.ediv_le_self _ hy
  rw [and_one_u64 _ h0 (by omega)]
  rfl

def dblI (m O : Int) : Int := if m - O ≤ O then O - (m - O) else O + O
def stepI (m x O B : Int) : Int := if B = 1 then (if m - x ≤ dblI m O then dblI m O - (m - x) else dblI m O + x) else dblI m O

theorem R1I.step {m x y O i : Int} (h : R1I m.toNat x.toNat y.toNat O i) (hm : 1 ≤ m) (hx : 0 ≤ x) (hxm : x < m) (hy : 0 ≤ y) (hi : i < 64) {O' : Int} (he : O' = stepI m x O (bitI y i)) :
    R1I m.toNat x.toNat y.toNat O' (i + 1) := by
  have i0 := h.i0
  have o0 := h.o0
  have o1 := h.o1
  have hd : dblI m O = (((O.toNat + O.toNat) % m.toNat : Nat) : Int) := by
    have := Obol.add_mod_by (m := m.toNat) (a := O.toNat) (b := O.toNat) (by omega) (by omega)
    rw [← this]
    unfold dblI
    split
    · rw [if_pos (by omega)]; omega
    · rw [if_neg (by omega)]; omega
  have hdl : (O.toNat + O.toNat) % m.toNat < m.toNat := Nat.mod_lt _ (by omega)
  have hD : O' = (((((O.toNat + O.toNat) % m.toNat) + (if y.toNat / 2 ^ (63 - i.toNat) % 2 = 1 then x.toNat % m.toNat else 0)) % m.toNat : Nat) : Int) := by
    have hb := bitI_toNat y i hy i0 hi
    rw [Nat.mod_eq_of_lt (show x.toNat < m.toNat by omega)]
    have := Obol.add_mod_by (m := m.toNat) (a := (O.toNat + O.toNat) % m.toNat) (b := x.toNat) hdl (by omega)
    rw [he, stepI, hd]
    generalize (O.toNat + O.toNat) % m.toNat = D at *
    by_cases hB : bitI y i = 1
    · rw [if_pos hB, if_pos (show y.toNat / 2 ^ (63 - i.toNat) % 2 = 1 by omega), ← this]
      split
      · rw [if_pos (by omega)]; omega
      · rw [if_neg (by omega)]; omega
    · rw [if_neg hB, if_neg (show ¬ y.toNat / 2 ^ (63 - i.toNat) % 2 = 1 by omega), Nat.add_zero, Nat.mod_eq_of_lt hdl]
  have hs := Obol.mul_step m.toNat x.toNat y.toNat i.toNat (by omega)
  rw [← h.eq] at hs
  rw [hs] at hD
  have hl := Nat.mod_lt (y.toNat / 2 ^ (64 - (i.toNat + 1)) * x.toNat) (show m.toNat > 0 by omega)
  refine ⟨by omega, by omega, by omega, by omega, ?_⟩
  rw [show (i + 1).toNat = i.toNat + 1 by omega, hD, Int.toNat_natCast]

theorem R1I.done {m a b O i : Int} (h : R1I m.toNat (a % m).toNat (b % m).toNat O i) (hm : 1 ≤ m) (ha : 0 ≤ a) (hb : 0 ≤ b) (hi : ¬ i < 64) : O = ((Obol.mulM m.toNat a.toNat b.toNat : Nat) : Int) := by
  have h1 := h.eq
  have i1 := h.i1
  have o0 := h.o0
  rw [show i.toNat = 64 by omega, Nat.sub_self, Nat.pow_zero, Nat.div_one, toNat_mod ha hm, toNat_mod hb hm, Nat.mul_comm, ← Nat.mul_mod] at h1
  rw [Obol.mulM]
  omega

theorem r1Mul (m a b : Int) (h0 : 1 ≤ m) (h1 : m ≤ 4611686018427387904) (ha : 0 ≤ a) (hb : 0 ≤ b) (w : World) :
    Calls Try.prog 38 #[.int .u64 m, .int .u64 a, .int .u64 b] w fun e w' => e = .returned (.int .u64 ((Obol.mulM m.toNat a.toNat b.toNat : Nat) : Int)) ∧ w' = w := by
  have h2 := Int.emod_nonneg a (show m ≠ 0 by omega)
  have h3 := Int.emod_lt_of_pos a (show 0 < m by omega)
  have h4 := Int.emod_nonneg b (show m ≠ 0 by omega)
  have h5 := Int.emod_lt_of_pos b (show 0 < m by omega)
  have e1 : a.tmod m = a % m := Int.tmod_eq_emod_of_nonneg ha
  have e2 : b.tmod m = b % m := Int.tmod_eq_emod_of_nonneg hb
  obtain ⟨x, hx⟩ : ∃ x : Int, x = a % m := ⟨_, rfl⟩
  obtain ⟨y, hy⟩ : ∃ y : Int, y = b % m := ⟨_, rfl⟩
  rw [← hx] at e1 h2 h3
  rw [← hy] at e2 h4 h5
  replace hx := hx.symm
  replace hy := hy.symm
  have HX := Lib.hid hx
  have HY := Lib.hid hy
  have I0 : Hid (R1I m.toNat x.toNat y.toNat 0 0) := Lib.hid ⟨by omega, by omega, by omega, by omega, by
    show (0 : Int).toNat = y.toNat / 2 ^ 64 * x.toNat % m.toNat
    rw [Nat.div_eq_of_lt (by omega), Nat.zero_mul]; rfl⟩
  go_enter Try.func38, Try.ntmps38
  go_wp2
  go_loopw [9, 10] (fun o c wr => ∃ O i : Int, o = .int .u64 O ∧ c = .int .i64 i ∧ Hid (R1I m.toNat x.toNat y.toNat O i) ∧ wr = w) (fun _ c _ => (64 - intOf c).toNat)
  case atStart => exact ⟨0, 0, rfl, rfl, I0, rfl⟩
  case round =>
    obtain ⟨O, i, rfl, rfl, HI, rfl⟩ := hrel
    have i0 := HI.out.i0
    have i1 := HI.out.i1
    have j0 := HI.out.o0
    have j1 : O < m := by have := HI.out.o1; omega
    have ea := bitI_bits y i h4 (by omega)
    by_cases hi : i < 64
    · rcases bitI_01 y i with hB | hB
      all_goals
        rw [hB] at ea
        go_wp2
      all_goals
        refine ⟨⟨_, _, rfl, rfl, Lib.hid (HI.out.step h0 h2 h3 h4 hi ?_), trivial⟩, by simp [intOf]; omega⟩
        unfold stepI dblI
        repeat' split
        all_goals omega
    · have HD : Hid (O = ((Obol.mulM m.toNat a.toNat b.toNat : Nat) : Int)) := Lib.hid (by
        have h := HI.out
        rw [← HX.out, ← HY.out] at h
        exact h.done h0 ha hb hi)
      go_wp2
      go_ret
      exact ⟨ret_u64 HD.out, rfl⟩

/-- What is known ahead of a power's next bit. -/
structure R1P (m a e : Nat) (O i : Int) : Prop where
  i0 : 0 ≤ i
  i1 : i ≤ 64
  o0 : 0 ≤ O
  eq : O.toNat = a ^ (e / 2 ^ (64 - i.toNat)) % m

theorem R1P.one {m a e : Nat} {O i y : Int} (h : R1P m a e O i) (he : e = y.toNat) (hy : 0 ≤ y) (hi : i < 64) (hb : bitI y i = 1) :
    R1P m a e ((Obol.mulM m (Obol.mulM m O.toNat O.toNat) a : Nat) : Int) (i + 1) := by
  have i0 := h.i0
  refine ⟨by omega, by omega, by omega, ?_⟩
  have hs := Obol.pow_step m a e i.toNat (by omega)
  have hb' := bitI_toNat y i hy i0 hi
  rw [← h.eq, if_pos (by rw [he]; omega)] at hs
  rw [Int.toNat_natCast, show (i + 1).toNat = i.toNat + 1 by omega]
  exact hs
theorem R1P.zero {m a e : Nat} {O i y : Int} (h : R1P m a e O i) (he : e = y.toNat) (hy : 0 ≤ y) (hi : i < 64) (hb : bitI y i = 0) :
    R1P m a e ((Obol.mulM m O.toNat O.toNat : Nat) : Int) (i + 1) := by
  have i0 := h.i0
  refine ⟨by omega, by omega, by omega, ?_⟩
  have hs := Obol.pow_step m a e i.toNat (by omega)
  have hb' := bitI_toNat y i hy i0 hi
  rw [← h.eq, if_neg (by rw [he]; omega)] at hs
  rw [Int.toNat_natCast, show (i + 1).toNat = i.toNat + 1 by omega]
  exact hs

theorem r1Pow (m a e : Int) (h0 : 2 ≤ m) (h1 : m ≤ 4611686018427387904) (ha : 0 ≤ a) (he : 0 ≤ e) (he1 : e ≤ 18446744073709551615) (w : World) :
    Calls Try.prog 26 #[.int .u64 m, .int .u64 a, .int .u64 e] w fun r w' => r = .returned (.int .u64 ((Obol.powM m.toNat a.toNat e.toNat : Nat) : Int)) ∧ w' = w := by
  have e1 : (1 : Int).tmod m = 1 := by rw [Int.tmod_eq_emod_of_nonneg (by omega), Int.emod_eq_of_lt (by omega) (by omega)]
  have e2 : (1 : Int) % m = 1 := by rw [Int.emod_eq_of_lt (by omega) (by omega)]
  have I0 : Hid (R1P m.toNat a.toNat e.toNat 1 0) := Lib.hid ⟨by omega, by omega, by omega, by
    show 1 = a.toNat ^ (e.toNat / 2 ^ 64) % m.toNat
    rw [Nat.div_eq_of_lt (by omega), Nat.pow_zero, Nat.mod_eq_of_lt (by omega)]⟩
  go_enter Try.func26, Try.ntmps26
  go_wp2
  go_loopw [7, 8] (fun o c wr => ∃ O i : Int, o = .int .u64 O ∧ c = .int .i64 i ∧ Hid (R1P m.toNat a.toNat e.toNat O i) ∧ wr = w) (fun _ c _ => (64 - intOf c).toNat)
  case atStart => exact ⟨1, 0, rfl, rfl, I0, rfl⟩
  case round =>
    obtain ⟨O, i, rfl, rfl, HI, rfl⟩ := hrel
    have i0 := HI.out.i0
    have i1 := HI.out.i1
    have j0 := HI.out.o0
    have ea := bitI_bits e i he he1
    by_cases hi : i < 64
    · rcases bitI_01 e i with hB | hB
      · have HN := Lib.hid (HI.out.zero rfl he hi hB)
        rw [hB] at ea
        go_wp2_with (go_at_call 38; refine (r1Mul _ _ _ (by omega) (by omega) (by omega) (by omega) _).mono ?_; rintro e w' ⟨rfl, rfl⟩)
        exact ⟨⟨_, _, rfl, rfl, HN, trivial⟩, by simp [intOf]; omega⟩
      · have HN := Lib.hid (HI.out.one rfl he hi hB)
        rw [hB] at ea
        go_wp2_with (go_at_call 38; refine (r1Mul _ _ _ (by omega) (by omega) (by omega) (by omega) _).mono ?_; rintro e w' ⟨rfl, rfl⟩)
        exact ⟨⟨_, _, rfl, rfl, HN, trivial⟩, by simp [intOf]; omega⟩
    · have HD : Hid (O = ((Obol.powM m.toNat a.toNat e.toNat : Nat) : Int)) := Lib.hid (by
        have h := HI.out.eq
        rw [show i.toNat = 64 by omega, Nat.sub_self, Nat.pow_zero, Nat.div_one] at h
        rw [Obol.powM]
        omega)
      go_wp2
      go_ret
      exact ⟨ret_u64 HD.out, rfl⟩

/-! the same modulo R -/
theorem R1Add (a b : Int) (ha : 0 ≤ a) (hb : 0 ≤ b) (w : World) :
    Calls Try.prog 39 #[.int .u64 288230376287764481, .int .u64 a, .int .u64 b] w fun e w' => e = .returned (.int .u64 ((Obol.addR a.toNat b.toNat : Nat) : Int)) ∧ w' = w :=
  by rw [Obol.addR_eq]; exact r1Add _ a b (by omega) (by omega) ha hb w
theorem R1Mul (a b : Int) (ha : 0 ≤ a) (hb : 0 ≤ b) (w : World) :
    Calls Try.prog 38 #[.int .u64 288230376287764481, .int .u64 a, .int .u64 b] w fun e w' => e = .returned (.int .u64 ((Obol.mulR a.toNat b.toNat : Nat) : Int)) ∧ w' = w :=
  by rw [Obol.mulR_eq]; exact r1Mul _ a b (by omega) (by omega) ha hb w
theorem R1Pow2 (b : Int) (hb : 0 ≤ b) (w : World) :
    Calls Try.prog 26 #[.int .u64 288230376287764481, .int .u64 b, .int .u64 288230376287764479] w fun e w' => e = .returned (.int .u64 ((Obol.invR b.toNat : Nat) : Int)) ∧ w' = w := by
  have h := r1Pow 288230376287764481 b 288230376287764479 (by omega) (by omega) hb (by omega) (by omega) w
  rw [litR, litR2] at h
  rw [Obol.powM, ← Obol.invR_eq] at h
  exact h

end Go.Proofs.Ytcdfpceagobicaa
