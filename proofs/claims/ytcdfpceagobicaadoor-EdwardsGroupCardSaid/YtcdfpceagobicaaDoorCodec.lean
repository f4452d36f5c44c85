import Derived.Test.YtcdfpceagobicaaDoorRoots
/- Plain law: the points of numbers: a number's lower 63 bits are Y, its highest bit tells X from R - X. No program in sight. -/
namespace Obol

/-- What X times X is, at a Y. -/
noncomputable def sqN (y : Nat) : Nat := overR (subR (mulR y y) 1) (addR 1 (mulR 439 (mulR y y)))
def codeN (p : Nat × Nat) : Nat := p.2 + p.1 % 2 * 9223372036854775808
def okN (x y odd : Nat) : Option (Nat × Nat) := if x % 2 = odd then .some (x, y) else Option.none
noncomputable def readN (n : Nat) : Option (Nat × Nat) :=
  if n % 9223372036854775808 < R ∧ sqB (sqN (n % 9223372036854775808)) = true then
    if rootN (sqN (n % 9223372036854775808)) % 2 = n / 9223372036854775808 then Option.some (rootN (sqN (n % 9223372036854775808)), n % 9223372036854775808)
    else okN (subR 0 (rootN (sqN (n % 9223372036854775808)))) (n % 9223372036854775808) (n / 9223372036854775808)
  else Option.none

theorem down_ne (Y : Fr) : 1 + K.d * (Y * Y) ≠ 0 := by
  intro h
  have h1 : K.i * K.i = -1 := K.i2
  have e : (K.d * Y) * (K.d * Y) = -K.d * (1 * 1) := by grind
  have := K.nonsq e
  exact K.ne this

theorem sqN_val (Y : Fr) : sqN Y.val = ((Y * Y - 1) * K.inv (1 + K.d * (Y * Y))).val := by
  unfold sqN
  rw [mulR_val, ← d_val, mulR_val, ← one_val, subR_val, addR_val, overR_val]

theorem on_side (X Y : Fr) : X * X = (Y * Y - 1) * K.inv (1 + K.d * (Y * Y)) ↔ K.On X Y := by
  have hn := down_ne Y
  have hi := K.inv_mul _ hn
  unfold Ground.On
  constructor
  · intro h
    have : X * X * (1 + K.d * (Y * Y)) = Y * Y - 1 := by
      rw [h]
      generalize K.inv (1 + K.d * (Y * Y)) = v at *
      have : (Y * Y - 1) * v * (1 + K.d * (Y * Y)) = (Y * Y - 1) * ((1 + K.d * (Y * Y)) * v) := by grind
      rw [this, hi]
      grind
    grind
  · intro h
    apply K.cancel hn
    generalize K.inv (1 + K.d * (Y * Y)) = v at *
    have : (1 + K.d * (Y * Y)) * ((Y * Y - 1) * v) = ((1 + K.d * (Y * Y)) * v) * (Y * Y - 1) := by grind
    rw [this, hi]
    grind

theorem is_sq {x y : Nat} (hx : x < R) (hy : y < R) : isN (x, y) = true ↔ x * x % R = sqN y % R := by
  have h := on_side ⟨x, hx⟩ ⟨y, hy⟩
  have h2 := on_iff ⟨x, hx⟩ ⟨y, hy⟩
  rw [← h2, ← h]
  have hv := sqN_val ⟨y, hy⟩
  show _ ↔ x * x % R = sqN (⟨y, hy⟩ : Fr).val % R
  rw [hv, lt_mod (Fin.isLt _)]
  constructor
  · intro e
    have := congrArg Fin.val e
    exact this
  · intro e
    exact Fin.ext e

theorem sub0 {x : Nat} (h : 2 * x ≤ R) : subR 0 x = if x = 0 then 0 else R - x := by
  rw [subR_eq, subQ]
  have hR := R_pos
  have := R_odd
  split
  · rename_i h0
    subst h0
    simp
  · rw [Nat.zero_mod, lt_mod (by omega : x < R), Nat.zero_add, lt_mod (by omega)]

theorem root_nil {a : Nat} (h : a % R = 0) : rootN a = 0 := by
  have hs : sqB a = true := by unfold sqB; rw [h]; rfl
  exact (rootN_is hs (x := 0) (by omega) (by rw [h]; rfl)).symm

theorem sqN_lt (y : Nat) : sqN y < R := by unfold sqN overR; exact mulR_lt _ _

/-- Whether there is a point of a number. -/
noncomputable def hasN (n : Nat) : Bool := decide (n % 9223372036854775808 < R) && (sqB (sqN (n % 9223372036854775808)) && (sqN (n % 9223372036854775808) != 0 || !decide (n ≥ 9223372036854775808)))

theorem neg_sq {x : Nat} (h : x ≤ R) : (R - x) * (R - x) % R = x * x % R := by
  have : (R - x) * (R - x) + 2 * x * R = x * x + R * R := by
    obtain ⟨z, hz⟩ : ∃ z, R = x + z := ⟨R - x, by omega⟩
    rw [hz]
    have : x + z - x = z := by omega
    rw [this]
    grind
  have h1 := congrArg (· % R) this
  simp only [Nat.add_mul_mod_self_right] at h1
  exact h1

theorem read_is (n : Nat) (h64 : n < 18446744073709551616) : (readN n).isSome = hasN n ∧ ∀ p, readN n = some p → isN p = true ∧ p.1 < R ∧ p.2 < R ∧ p.2 = n % 9223372036854775808 ∧ p.1 % 2 = n / 9223372036854775808 := by
  have hoddR := R_odd
  by_cases hy : n % 9223372036854775808 < R
  · cases hs : sqB (sqN (n % 9223372036854775808))
    · have e : readN n = Option.none := by unfold readN; rw [hs]; simp
      have e2 : hasN n = false := by unfold hasN; rw [hs]; simp
      rw [e, e2]
      exact ⟨rfl, fun p h => by cases h⟩
    · obtain ⟨r1, r2⟩ := rootN_ok hs
      obtain ⟨x, hx⟩ : ∃ x, x = rootN (sqN (n % 9223372036854775808)) := ⟨_, rfl⟩
      have hlt := sqN_lt (n % 9223372036854775808)
      have e : readN n = if x % 2 = n / 9223372036854775808 then some (x, n % 9223372036854775808) else okN (subR 0 x) (n % 9223372036854775808) (n / 9223372036854775808) := by
        unfold readN
        rw [if_pos ⟨hy, hs⟩, hx]
      have e2 : hasN n = (sqN (n % 9223372036854775808) != 0 || !decide (n ≥ 9223372036854775808)) := by unfold hasN; rw [hs, decide_eq_true hy]; simp
      rw [← hx] at r1 r2
      have hz : sqN (n % 9223372036854775808) = 0 ↔ x = 0 := by
        constructor
        · intro h
          rw [hx]
          exact root_nil (by rw [h]; rfl)
        · intro h
          rw [h, lt_mod hlt] at r2
          simpa using r2.symm
      have hxR : x < R := by omega
      rw [e, e2, sub0 r1]
      by_cases hx0 : x = 0
      · have hq := hz.2 hx0
        rw [hq, hx0]
        unfold okN
        by_cases ho : n ≥ 9223372036854775808
        · have : n / 9223372036854775808 = 1 := by omega
          simp [this, ho]
        · have : n / 9223372036854775808 = 0 := by omega
          simp [this, ho]
          refine ⟨(is_sq (by omega) (by omega)).2 (by rw [hq]), by omega, hy⟩
      · have hq : sqN (n % 9223372036854775808) ≠ 0 := fun h => hx0 (hz.1 h)
        have hqb : (sqN (n % 9223372036854775808) != 0) = true := bne_iff_ne.2 hq
        rw [hqb, Bool.true_or, if_neg hx0]
        by_cases hp : x % 2 = n / 9223372036854775808
        · rw [if_pos hp]
          refine ⟨rfl, fun p h => ?_⟩
          cases h
          exact ⟨(is_sq hxR hy).2 r2, hxR, hy, rfl, hp⟩
        · rw [if_neg hp]
          unfold okN
          rw [if_pos (by omega)]
          refine ⟨rfl, fun p h => ?_⟩
          cases h
          refine ⟨(is_sq (by omega) hy).2 ?_, by omega, hy, rfl, by omega⟩
          rw [neg_sq (by omega)]
          exact r2
  · have e : readN n = Option.none := by unfold readN; rw [if_neg (fun h => hy h.1)]
    have e2 : hasN n = false := by unfold hasN; rw [decide_eq_false hy]; rfl
    rw [e, e2]
    exact ⟨rfl, fun p h => by cases h⟩

theorem read_code {p : Nat × Nat} (h : isN p = true) : readN (codeN p) = some p := by
  obtain ⟨x, y⟩ := p
  have h' := h
  unfold isN at h'
  simp only [Bool.and_eq_true, decide_eq_true_eq] at h'
  have hx : x < R := h'.1.1
  have hy : y < R := h'.1.2
  have hRR : R < 9223372036854775808 := by decide +kernel
  have hoddR := R_odd
  have e1 : codeN (x, y) % 9223372036854775808 = y := by unfold codeN; simp only; omega
  have e2 : codeN (x, y) / 9223372036854775808 = x % 2 := by unfold codeN; simp only; omega
  have hq := (is_sq hx hy).1 h
  have hs : sqB (sqN y) = true := (sqB_iff _).2 ⟨x, hx, hq⟩
  obtain ⟨r1, r2⟩ := rootN_ok hs
  have hr := two_roots (x := rootN (sqN y)) (y := x) (by omega) hx (by rw [r2, hq])
  unfold readN
  rw [e1, e2, if_pos ⟨hy, hs⟩]
  rcases hr with hr | hr
  · rw [hr, if_pos rfl]
  · rw [sub0 r1]
    by_cases h0 : rootN (sqN y) = 0
    · omega
    · rw [if_neg (by omega), if_neg h0]
      unfold okN
      have : R - rootN (sqN y) = x := by omega
      rw [this, if_pos rfl]

/-! the bytes -/
def be8 (n : Nat) : List Nat := [n / 72057594037927936 % 256, n / 281474976710656 % 256, n / 1099511627776 % 256, n / 4294967296 % 256, n / 16777216 % 256, n / 65536 % 256, n / 256 % 256, n % 256]
def num8 : List Nat → Nat := fun l => l.foldl (fun n c => 256 * n + c) 0
theorem num_be (n : Nat) (h : n < 18446744073709551616) : num8 (be8 n) = n := by
  simp only [num8, be8, List.foldl]
  omega
theorem be_num {a b c d e f g h : Nat} (ha : a < 256) (hb : b < 256) (hc : c < 256) (hd : d < 256) (he : e < 256) (hf : f < 256) (hg : g < 256) (hh : h < 256) : be8 (num8 [a, b, c, d, e, f, g, h]) = [a, b, c, d, e, f, g, h] := by
  simp only [num8, be8, List.foldl]
  simp only [List.cons.injEq, and_true]
  omega
theorem num_lt : ∀ (l : List Nat) (n : Nat) (_ : ∀ x ∈ l, x < 256), l.foldl (fun n c => 256 * n + c) n < (n + 1) * 256 ^ l.length
  | [], n, _ => by simp
  | c :: l, n, h => by
    have h1 := num_lt l (256 * n + c) (fun x hx => h x (List.mem_cons_of_mem _ hx))
    have h2 := h c (List.mem_cons_self ..)
    rw [List.foldl_cons, List.length_cons, Nat.pow_succ]
    refine Nat.lt_of_lt_of_le h1 ?_
    rw [Nat.mul_comm (256 ^ l.length) 256, ← Nat.mul_assoc]
    exact Nat.mul_le_mul_right _ (by omega)
theorem num8_lt {l : List Nat} (h : ∀ x ∈ l, x < 256) (hl : l.length = 8) : num8 l < 18446744073709551616 := by
  have := num_lt l 0 h
  rw [hl] at this
  simpa [num8] using this
theorem be_num8 {l : List Nat} (h : ∀ x ∈ l, x < 256) (hl : l.length = 8) : be8 (num8 l) = l := by
  match l, hl with
  | [a, b, c, d, e, f, g, i], _ =>
    simp only [List.mem_cons, List.not_mem_nil, or_false, forall_eq_or_imp, forall_eq] at h
    exact be_num h.1 h.2.1 h.2.2.1 h.2.2.2.1 h.2.2.2.2.1 h.2.2.2.2.2.1 h.2.2.2.2.2.2.1 h.2.2.2.2.2.2.2
theorem be_lt (n : Nat) : ∀ x ∈ be8 n, x < 256 := by
  intro x hx
  simp only [be8, List.mem_cons, List.not_mem_nil, or_false] at hx
  omega

end Obol
