import Derived.Test.YtallfmiikjmgaaaMA
set_option linter.unusedVariables false
set_option linter.unusedSimpArgs false
/- Plain: what digits of any radix say; digits of 8 bits. -/
namespace Obol
/-- A value that nothing can look into. -/
noncomputable def shutN {α : Type} (x : α) : { y : α // y = x } := Classical.choice ⟨⟨x, rfl⟩⟩
theorem getD_set (L : List Nat) (i j z : Nat) (hi : i < L.length) : (L.set i z).getD j 0 = if i = j then z else L.getD j 0 := by
  rw [List.getD_eq_getElem?_getD, List.getElem?_set, List.getD_eq_getElem?_getD]
  split
  · rename_i h
    first | rfl | (rw [if_pos (by omega)]; rfl)
  · rfl
theorem ext_getD {L M : List Nat} (hl : L.length = M.length) (h : ∀ i, i < L.length → L.getD i 0 = M.getD i 0) : L = M := by
  refine List.ext_getElem hl fun i h1 h2 => ?_
  have := h i h1
  rwa [List.getD_eq_getElem?_getD, List.getD_eq_getElem?_getD, List.getElem?_eq_getElem h1, List.getElem?_eq_getElem h2] at this
theorem getD_out {L : List Nat} {i : Nat} (h : L.length ≤ i) : L.getD i 0 = 0 := by
  rw [List.getD_eq_getElem?_getD, List.getElem?_eq_none h]; rfl
/-- What the first digits say. -/
def vR (R : Nat) (L : List Nat) : Nat → Nat
  | 0 => 0
  | i + 1 => vR R L i + L.getD i 0 * R ^ i
theorem vR_succ (R : Nat) (L : List Nat) (i : Nat) : vR R L (i + 1) = vR R L i + L.getD i 0 * R ^ i := rfl
theorem vR_congr (R : Nat) {L M : List Nat} : ∀ n, (∀ i, i < n → L.getD i 0 = M.getD i 0) → vR R L n = vR R M n
  | 0, _ => rfl
  | n + 1, h => by
    show vR R L n + _ = vR R M n + _
    rw [vR_congr R n (fun i hi => h i (by omega)), h n (by omega)]
theorem vR_more (R : Nat) (L : List Nat) (n : Nat) (hn : L.length ≤ n) : ∀ k, vR R L (n + k) = vR R L n
  | 0 => rfl
  | k + 1 => by
    show vR R L (n + k) + L.getD (n + k) 0 * R ^ (n + k) = _
    rw [getD_out (by omega), Nat.zero_mul, Nat.add_zero, vR_more R L n hn k]
theorem vR_ge (R : Nat) (L : List Nat) (n : Nat) : ∀ k, ∃ t, vR R L (n + k) = vR R L n + R ^ n * t
  | 0 => ⟨0, rfl⟩
  | k + 1 => by
    obtain ⟨t, ht⟩ := vR_ge R L n k
    refine ⟨t + L.getD (n + k) 0 * R ^ k, ?_⟩
    show vR R L (n + k) + L.getD (n + k) 0 * R ^ (n + k) = _
    rw [ht, Nat.pow_add, Nat.mul_add, Nat.add_assoc]
    congr 2
    rw [Nat.mul_left_comm]
theorem vR_div (R : Nat) (hR : 0 < R) (L : List Nat) (i : Nat) : vR R L (i + 1) / R ^ i = vR R L i / R ^ i + L.getD i 0 := by
  show (vR R L i + L.getD i 0 * R ^ i) / R ^ i = _
  rw [Nat.add_mul_div_right _ _ (Nat.pow_pos hR)]
theorem vR_step (R : Nat) (hR : 0 < R) (L : List Nat) (i : Nat) : (vR R L i / R ^ i + L.getD i 0) / R = vR R L (i + 1) / R ^ (i + 1) := by
  rw [← vR_div R hR, Nat.div_div_eq_div_mul, Nat.pow_succ]
/-- The digit of what all say. -/
theorem vR_dig (R : Nat) (hR : 0 < R) (L : List Nat) (i m : Nat) (h : i < m) : (vR R L i / R ^ i + L.getD i 0) % R = vR R L m / R ^ i % R := by
  obtain ⟨k, rfl⟩ : ∃ k, m = i + 1 + k := ⟨m - (i + 1), by omega⟩
  obtain ⟨t, ht⟩ := vR_ge R L (i + 1) k
  rw [← vR_div R hR, ht, Nat.pow_succ, Nat.mul_assoc, Nat.add_mul_div_left _ _ (Nat.pow_pos hR), Nat.add_mul_mod_self_left]
theorem vR_lt (R : Nat) {L : List Nat} (h : ∀ i, L.getD i 0 < R) : ∀ n, vR R L n < R ^ n
  | 0 => Nat.one_pos
  | n + 1 => by
    have h1 := vR_lt R h n
    have h2 : (L.getD n 0 + 1) * R ^ n ≤ R * R ^ n := Nat.mul_le_mul_right _ (h n)
    show vR R L n + L.getD n 0 * R ^ n < _
    rw [Nat.pow_succ, Nat.mul_comm (R ^ n)]
    rw [Nat.add_mul] at h2
    omega
theorem vR_set (R : Nat) (L : List Nat) (j x : Nat) (hj : j < L.length) : ∀ n, j < n → vR R (L.set j (L.getD j 0 + x)) n = vR R L n + x * R ^ j
  | 0, h => by omega
  | n + 1, h => by
    show vR R (L.set j _) n + (L.set j _).getD n 0 * R ^ n = vR R L n + L.getD n 0 * R ^ n + _
    rw [getD_set _ _ _ _ hj]
    by_cases hn : j = n
    · subst hn
      rw [if_pos rfl, vR_congr R (M := L) j (fun i hi => by rw [getD_set _ _ _ _ hj, if_neg (by omega)]), Nat.add_mul, Nat.add_assoc]
    · rw [if_neg hn, vR_set R L j x hj n (by omega)]; omega
/-- Digits of 8 bits. -/
def digs (n V : Nat) : List Nat := (List.range n).map fun i => V / 256 ^ i % 256
theorem digs_len (n V : Nat) : (digs n V).length = n := by simp [digs]
theorem digs_get (n V : Nat) {i : Nat} (h : i < n) : (digs n V).getD i 0 = V / 256 ^ i % 256 := by
  unfold digs
  rw [List.getD_eq_getElem?_getD, List.getElem?_map, List.getElem?_range h]
  rfl
theorem digs_lt (n V i : Nat) : (digs n V).getD i 0 < 256 := by
  by_cases h : i < n
  · rw [digs_get n V h]; exact Nat.mod_lt _ (by decide)
  · rw [getD_out (by rw [digs_len]; omega)]; decide
theorem vR_digs (n V : Nat) : ∀ m, m ≤ n → vR 256 (digs n V) m = V % 256 ^ m
  | 0, _ => by simp [vR, Nat.mod_one]
  | m + 1, h => by
    show vR 256 (digs n V) m + (digs n V).getD m 0 * 256 ^ m = _
    rw [vR_digs n V m (by omega), digs_get n V (by omega), Nat.mod_pow_succ, Nat.mul_comm (256 ^ m)]
theorem digs_vR {L : List Nat} {n : Nat} (hl : L.length = n) (h : ∀ i, L.getD i 0 < 256) : digs n (vR 256 L n) = L := by
  refine ext_getD (by rw [digs_len, hl]) fun i hi => ?_
  rw [digs_len] at hi
  rw [digs_get _ _ hi, ← vR_dig 256 (by decide) L i n hi]
  have h1 := vR_lt 256 h i
  rw [Nat.div_eq_of_lt h1, Nat.zero_add, Nat.mod_eq_of_lt (h i)]
/-- The next bit of a number, in its digits. -/
theorem digs_bit (n V i : Nat) (hi : i / 8 < n) (b : Nat) (hb : b = V / 2 ^ i % 2) :
    (digs n (V % 2 ^ i)).getD (i / 8) 0 < 2 ^ (i % 8) ∧ (digs n (V % 2 ^ i)).set (i / 8) ((digs n (V % 2 ^ i)).getD (i / 8) 0 + b * 2 ^ (i % 8)) = digs n (V % 2 ^ (i + 1)) := by
  subst hb
  have e8 : 2 ^ i = 256 ^ (i / 8) * 2 ^ (i % 8) := by
    rw [show (256 : Nat) = 2 ^ 8 from rfl, ← Nat.pow_mul, ← Nat.pow_add, Nat.div_add_mod]
  have hA : V % 2 ^ i < 2 ^ i := Nat.mod_lt _ (Nat.two_pow_pos i)
  have hB : V % 2 ^ (i + 1) = V % 2 ^ i + 2 ^ i * (V / 2 ^ i % 2) := Nat.mod_pow_succ
  have hm : i % 8 < 8 := Nat.mod_lt _ (by decide)
  have h8 : 2 ^ (i % 8) ≤ 128 := Nat.pow_le_pow_right (by decide) (show i % 8 ≤ 7 by omega)
  generalize V % 2 ^ i = A at hA hB ⊢
  have hb2 : V / 2 ^ i % 2 < 2 := Nat.mod_lt _ (by decide)
  generalize V / 2 ^ i % 2 = b at hB hb2 ⊢
  have hd : A / 256 ^ (i / 8) < 2 ^ (i % 8) := by
    rw [Nat.div_lt_iff_lt_mul (Nat.pow_pos (by decide)), Nat.mul_comm, ← e8]
    exact hA
  have h0 : (digs n A).getD (i / 8) 0 = A / 256 ^ (i / 8) := by rw [digs_get _ _ hi, Nat.mod_eq_of_lt (by omega)]
  refine ⟨by rw [h0]; exact hd, ?_⟩
  refine ext_getD (by rw [List.length_set, digs_len, digs_len]) fun k hk => ?_
  rw [List.length_set, digs_len] at hk
  rw [getD_set _ _ _ _ (by rw [digs_len]; exact hi), hB]
  split
  · rename_i hk2
    have e9 : (A + 2 ^ i * b) / 256 ^ (i / 8) = A / 256 ^ (i / 8) + b * 2 ^ (i % 8) := by
      rw [e8, Nat.mul_assoc, Nat.add_mul_div_left _ _ (Nat.pow_pos (by decide)), Nat.mul_comm (2 ^ (i % 8))]
    have hb3 : b * 2 ^ (i % 8) ≤ 1 * 2 ^ (i % 8) := Nat.mul_le_mul_right _ (by omega)
    have hlt : A / 256 ^ (i / 8) + b * 2 ^ (i % 8) < 256 := by omega
    rw [← hk2, h0, digs_get _ _ hi, e9, Nat.mod_eq_of_lt hlt]
  · rename_i hk2
    rw [digs_get _ _ hk, digs_get _ _ hk]
    by_cases hlt : k < i / 8
    · obtain ⟨t, ht⟩ : ∃ t, 2 ^ i = 256 ^ k * (256 * t) := ⟨256 ^ (i / 8 - k - 1) * 2 ^ (i % 8), by
        rw [e8, show i / 8 = k + (1 + (i / 8 - k - 1)) by omega, Nat.pow_add, Nat.pow_add, show k + (1 + (i / 8 - k - 1)) - k - 1 = i / 8 - k - 1 by omega]
        simp only [Nat.mul_assoc, Nat.pow_one]⟩
      rw [ht, Nat.mul_assoc, Nat.add_mul_div_left _ _ (Nat.pow_pos (by decide)), Nat.mul_assoc, Nat.add_mul_mod_self_left]
    · have hp : 2 ^ (i + 1) ≤ 256 ^ k := by
        rw [show (256 : Nat) = 2 ^ 8 from rfl, ← Nat.pow_mul]
        exact Nat.pow_le_pow_right (by decide) (by omega)
      have hB2 : A + 2 ^ i * b < 2 ^ (i + 1) := by rw [← hB]; exact Nat.mod_lt _ (Nat.two_pow_pos _)
      rw [Nat.div_eq_of_lt (by omega), Nat.div_eq_of_lt (by omega)]
end Obol
