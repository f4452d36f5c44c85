import Derived.Test.YtallfmiikjmgaaaZPpoly
set_option linter.unusedVariables false
set_option linter.unusedSimpArgs false
/- Plain: the mark of bytes by a key, as a number; the two ways to it. -/
namespace Obol
theorem lessF_eq {L : List Nat} (hB : ∀ i, L.getD i 0 < 256) : ∀ i, lessF L i = decide (vR 256 L (i + 1) + 5 < 256 ^ (i + 1))
  | 0 => by simp only [lessF, vR]; congr 1; simp; omega
  | i + 1 => by
    have ih := lessF_eq hB i
    have h1 := vR_lt 256 hB (i + 1)
    have h2 := hB (i + 1)
    have h3 : 256 ^ (i + 1 + 1) = 256 ^ (i + 1) * 256 := Nat.pow_succ ..
    have h4 : 256 ^ 1 ≤ 256 ^ (i + 1) := Nat.pow_le_pow_right (by decide) (by omega)
    show (if L.getD (i + 1) 0 = 255 then lessF L i else true) = decide (vR 256 L (i + 1) + L.getD (i + 1) 0 * 256 ^ (i + 1) + 5 < 256 ^ (i + 1 + 1))
    rw [h3]
    generalize vR 256 L (i + 1) = V at *
    generalize 256 ^ (i + 1) = E at *
    split
    · rename_i h
      rw [ih, h]
      congr 1
      exact propext ⟨fun h => by omega, fun h => by omega⟩
    · have h5 : L.getD (i + 1) 0 * E ≤ 254 * E := Nat.mul_le_mul_right _ (by omega)
      exact (decide_eq_true (by omega)).symm
theorem lessL_eq {L : List Nat} (hB : ∀ i, L.getD i 0 < 256) (h16 : L.getD 16 0 ≤ 3) : lessL L = decide (vR 256 L 17 < P130) := by
  have h1 := lessF_eq hB 15
  have h2 := vR_lt 256 hB 16
  have e16 : (256 : Nat) ^ 16 = 340282366920938463463374607431768211456 := by decide
  show (if L.getD 16 0 = 3 then lessF L 15 else decide (L.getD 16 0 < 3)) = decide (vR 256 L 16 + L.getD 16 0 * 256 ^ 16 < P130)
  rw [h1]
  show (if L.getD 16 0 = 3 then decide (vR 256 L 16 + 5 < 256 ^ 16) else decide (L.getD 16 0 < 3)) = _
  rw [e16] at h2 ⊢
  unfold P130
  generalize vR 256 L 16 = V at *
  split
  · rename_i h
    rw [h]
    congr 1
    exact propext ⟨fun h => by omega, fun h => by omega⟩
  · congr 1
    exact propext ⟨fun h => by omega, fun h => by omega⟩
/-! one round of the reference's reduction -/
def highL (x : List Nat) : List Nat := (List.range 24).map fun i => x.getD (16 + i) 0 / 4 + (if i < 23 then x.getD (17 + i) 0 % 4 * 64 else 0)
def lowL (x : List Nat) : List Nat := (x.take 17).set 16 (x.getD 16 0 % 4)
def nextL (h l : List Nat) : List Nat := (List.range 24).map fun i => if i < 17 then 5 * h.getD i 0 + l.getD i 0 else 5 * h.getD i 0
theorem range_get {f : Nat → Nat} {n i : Nat} (h : i < n) : ((List.range n).map f).getD i 0 = f i := by
  rw [List.getD_eq_getElem?_getD, List.getElem?_map, List.getElem?_range h]
  rfl
theorem pow_add_div (V k j : Nat) : V / 256 ^ (k + j) = V / 256 ^ k / 256 ^ j := by rw [Nat.pow_add, Nat.div_div_eq_div_mul]
theorem highL_eq {V : Nat} (hV : V < 256 ^ 40) : highL (digs 40 V) = digs 24 (V / 1361129467683753853853498429727072845824) := by
  refine ext_getD (by simp [highL, digs_len]) fun i hi => ?_
  have hi : i < 24 := by simpa [highL] using hi
  rw [digs_get _ _ hi]
  unfold highL
  rw [range_get hi, digs_get _ _ (by omega)]
  have e : V / 1361129467683753853853498429727072845824 / 256 ^ i = V / 256 ^ (16 + i) / 4 := by
    rw [show (1361129467683753853853498429727072845824 : Nat) = 256 ^ 16 * 4 by decide, Nat.pow_add, Nat.div_div_eq_div_mul, Nat.div_div_eq_div_mul, Nat.mul_assoc, Nat.mul_assoc, Nat.mul_comm 4]
  rw [e]
  have e2 : V / 256 ^ (17 + i) = V / 256 ^ (16 + i) / 256 := by rw [show 17 + i = 16 + i + 1 by omega, Nat.pow_succ, Nat.div_div_eq_div_mul]
  split
  · rw [digs_get _ _ (by omega), e2]
    generalize V / 256 ^ (16 + i) = X
    omega
  · obtain rfl : i = 23 := by omega
    have h2 : V / 256 ^ (16 + 23) < 256 := by
      rw [Nat.div_lt_iff_lt_mul (Nat.pow_pos (by decide)), Nat.mul_comm, ← Nat.pow_succ]
      exact hV
    generalize V / 256 ^ (16 + 23) = X at *
    omega
theorem lowL_eq (V : Nat) : lowL (digs 40 V) = digs 17 (V % 1361129467683753853853498429727072845824) := by
  refine ext_getD (by simp [lowL, digs_len]) fun i hi => ?_
  have hi : i < 17 := by simpa [lowL, digs_len] using hi
  unfold lowL
  rw [getD_set _ _ _ _ (by simp [digs_len]), digs_get _ _ hi, digs_get _ _ (by omega)]
  have e : (1361129467683753853853498429727072845824 : Nat) = 256 ^ 16 * 4 := by decide
  split
  · rename_i h
    subst h
    rw [e, Nat.mod_mul_right_div_self]
    generalize V / 256 ^ 16 = X
    omega
  · rename_i h
    rw [List.getD_eq_getElem?_getD, List.getElem?_take, if_pos hi, ← List.getD_eq_getElem?_getD, digs_get _ _ (by omega)]
    obtain ⟨q, hq⟩ : ∃ q, 256 ^ 16 * 4 = 256 ^ i * (256 * q) := ⟨256 ^ (15 - i) * 4, by rw [show (16 : Nat) = i + (1 + (15 - i)) by omega, Nat.pow_add, Nat.pow_add]; simp only [Nat.mul_assoc, Nat.pow_one, Nat.add_sub_cancel_left, show i + (1 + (15 - i)) - i - 1 = 15 - i by omega]⟩
    rw [e, hq, Nat.mod_mul_right_div_self, Nat.mod_mul_right_mod]
theorem nextL_val (h l : List Nat) (hl : l.length = 17) : vR 256 (nextL h l) 40 = 5 * vR 256 h 24 + vR 256 l 17 := by
  have h1 : vR 256 (nextL h l) 40 = vR 256 (nextL h l) 24 := vR_more 256 _ 24 (by simp [nextL]) 16
  have h2 : vR 256 l 24 = vR 256 l 17 := vR_more 256 _ 17 (by omega) 7
  rw [h1, ← h2]
  have key : ∀ m, m ≤ 24 → vR 256 (nextL h l) m = 5 * vR 256 h m + vR 256 l m := by
    intro m
    induction m with
    | zero => intro _; rfl
    | succ m ih =>
      intro hm
      show vR 256 (nextL h l) m + (nextL h l).getD m 0 * 256 ^ m = 5 * (vR 256 h m + h.getD m 0 * 256 ^ m) + (vR 256 l m + l.getD m 0 * 256 ^ m)
      rw [ih (by omega)]
      unfold nextL
      rw [range_get (by omega)]
      have : (if m < 17 then 5 * h.getD m 0 + l.getD m 0 else 5 * h.getD m 0) = 5 * h.getD m 0 + l.getD m 0 := by
        split
        · rfl
        · rw [getD_out (L := l) (by omega)]; rfl
      rw [this, Nat.add_mul, Nat.mul_assoc]
      omega
  exact key 24 (by omega)
/-- The value behind a round. -/
def nextV (V : Nat) : Nat := 5 * (V / 1361129467683753853853498429727072845824) + V % 1361129467683753853853498429727072845824
theorem nextV_mod (V : Nat) : nextV V % P130 = V % P130 := by rw [← fold_mod V]; unfold nextV; rw [Nat.add_comm]
theorem nextV_lt {V : Nat} (h : 0 < V / 1361129467683753853853498429727072845824) : nextV V < V := by unfold nextV; omega
theorem next_digs {V : Nat} (hV : V < 256 ^ 40) : carrL (nextL (digs 24 (V / 1361129467683753853853498429727072845824)) (digs 17 (V % 1361129467683753853853498429727072845824))) 40 = digs 40 (nextV V) := by
  rw [carrL_eq _ 40 40 (Nat.le_refl _), nextL_val _ _ (digs_len _ _), vR_digs 24 _ 24 (Nat.le_refl _), vR_digs 17 _ 17 (Nat.le_refl _)]
  unfold nextV
  rw [Nat.mod_eq_of_lt (b := 256 ^ 24), Nat.mod_eq_of_lt (b := 256 ^ 17)]
  · exact Nat.lt_of_lt_of_le (Nat.mod_lt _ (by decide)) (by decide)
  · have e : (256 : Nat) ^ 40 = 2135987035920910082395021706169552114602704522356652769947041607822219725780640550022962086936576 := by decide
    have e2 : (256 : Nat) ^ 24 = 6277101735386680763835789423207666416102355444464034512896 := by decide
    rw [e] at hV
    rw [e2]
    omega
/-- What the last round gives. -/
theorem last_digs {V : Nat} (h : V / 1361129467683753853853498429727072845824 = 0) : (if lessL (digs 17 V) then digs 17 V else lowL (carrL ((digs 17 V).set 0 ((digs 17 V).getD 0 0 + 5)) 17)) = digs 17 (V % P130) := by
  have hV : V < 1361129467683753853853498429727072845824 := by omega
  have h16 : (digs 17 V).getD 16 0 ≤ 3 := by
    rw [digs_get _ _ (by omega)]
    have : V / 256 ^ 16 < 4 := by
      rw [Nat.div_lt_iff_lt_mul (Nat.pow_pos (by decide))]
      exact Nat.lt_of_lt_of_le hV (by decide)
    omega
  have hv : vR 256 (digs 17 V) 17 = V := by
    rw [vR_digs 17 _ 17 (Nat.le_refl _), Nat.mod_eq_of_lt (Nat.lt_of_lt_of_le hV (by decide))]
  rw [lessL_eq (digs_lt 17 V) h16, hv]
  by_cases hp : V < P130
  · rw [if_pos (decide_eq_true hp), Nat.mod_eq_of_lt hp]
  · rw [if_neg (by simp; omega), carrL_eq _ 17 17 (Nat.le_refl _), vR_set 256 _ 0 5 (by rw [digs_len]; omega) 17 (by omega), hv]
    have e : V % P130 = (V + 5 * 256 ^ 0) % 1361129467683753853853498429727072845824 := by unfold P130 at hp ⊢; omega
    rw [e, ← lowL_eq]
    unfold lowL
    refine ext_getD (by simp [digs_len]) fun i hi => ?_
    have hi : i < 17 := by simpa [digs_len] using hi
    rw [getD_set _ _ _ _ (by simp [digs_len]), getD_set _ _ _ _ (by simp [digs_len])]
    rw [digs_get 17 _ (show 16 < 17 by omega), digs_get 40 _ (show 16 < 40 by omega)]
    split
    · rfl
    · rw [List.getD_eq_getElem?_getD, List.getD_eq_getElem?_getD, List.getElem?_take, List.getElem?_take, if_pos hi, if_pos hi, ← List.getD_eq_getElem?_getD, ← List.getD_eq_getElem?_getD, digs_get _ _ hi, digs_get _ _ (by omega)]
end Obol
