import Derived.Test.YtallfmiikjmgaaaZPdig
import Derived.Test.YtallfmiikjmgaaaZWtim0
import Derived.Test.YtallfmiikjmgaaaZWrless
set_option linter.unusedVariables false
set_option linter.unusedSimpArgs false
/- Plain: numbers modulo 2^130 - 5: limbs of 26 bits, digits of 8 bits. -/
namespace Obol
def P130 : Nat := 1361129467683753853853498429727072845819
theorem crest_eq (L : List Nat) : ∀ i, crest L i = vR 256 L i / 256 ^ i
  | 0 => by simp [crest, vR]
  | i + 1 => by
    show (crest L i + L.getD i 0) / 256 = _
    rw [crest_eq L i, vR_step 256 (by decide)]
theorem carrS_get (L : List Nat) (n : Nat) : ∀ j i, i < n → (carrS L n j).getD i 0 = if i < j then (crest L i + L.getD i 0) % 256 else 0
  | 0, i, hi => by
    rw [if_neg (by omega)]
    show (List.replicate n 0).getD i 0 = 0
    rw [List.getD_eq_getElem?_getD, List.getElem?_replicate, if_pos hi]; rfl
  | j + 1, i, hi => by
    show ((carrS L n j).set j _).getD i 0 = _
    by_cases hj : j < n
    · rw [getD_set _ _ _ _ (by rw [carrS_len]; exact hj)]
      by_cases h : j = i
      · subst h; rw [if_pos rfl, if_pos (by omega)]
      · rw [if_neg h, carrS_get L n j i hi]
        by_cases h2 : i < j
        · rw [if_pos h2, if_pos (by omega)]
        · rw [if_neg h2, if_neg (by omega)]
    · rw [List.set_eq_of_length_le (by rw [carrS_len]; omega), carrS_get L n j i hi, if_pos (by omega), if_pos (by omega)]
/-- Carried digits are the digits of what was said. -/
theorem carrL_eq (L : List Nat) (n m : Nat) (h : n ≤ m) : carrL L n = digs n (vR 256 L m) := by
  refine ext_getD (by rw [carrL, carrS_len, digs_len]) fun i hi => ?_
  rw [carrL, carrS_len] at hi
  rw [carrL, carrS_get L n n i hi, if_pos hi, digs_get _ _ hi, crest_eq, vR_dig 256 (by decide) L i m (by omega)]
theorem cpass_rest (d : List Nat) : ∀ j, j ≤ d.length → (cpass d j).2 = vR 67108864 d j / 67108864 ^ j ∧ (cpass d j).1.length = d.length ∧ ∀ i, i < d.length → (cpass d j).1.getD i 0 = if i < j then vR 67108864 d d.length / 67108864 ^ i % 67108864 else d.getD i 0
  | 0, _ => ⟨by simp [cpass, vR], rfl, fun i _ => by rw [if_neg (by omega)]; rfl⟩
  | j + 1, hj => by
    obtain ⟨h1, h2, h3⟩ := cpass_rest d j (by omega)
    have hj2 : (cpass d j).1.getD j 0 = d.getD j 0 := by rw [h3 j (by omega), if_neg (by omega)]
    refine ⟨?_, ?_, fun i hi => ?_⟩
    · show ((cpass d j).1.getD j 0 + (cpass d j).2) / 67108864 = _
      rw [hj2, h1, Nat.add_comm, vR_step 67108864 (by decide)]
    · show ((cpass d j).1.set j _).length = _
      rw [List.length_set, h2]
    · show ((cpass d j).1.set j _).getD i 0 = _
      rw [getD_set _ _ _ _ (by omega)]
      by_cases h : j = i
      · subst h
        rw [if_pos rfl, if_pos (by omega), hj2, h1, Nat.add_comm, vR_dig 67108864 (by decide) d j d.length (by omega)]
      · rw [if_neg h, h3 i hi]
        by_cases h4 : i < j
        · rw [if_pos h4, if_pos (by omega)]
        · rw [if_neg h4, if_neg (by omega)]
theorem valL_vR (d : List Nat) : valL d = vR 67108864 d 5 := by simp [valL, vR]
theorem p130 : (67108864 : Nat) ^ 5 = P130 + 5 := by decide
/-- A carry: what stands from bit 130 on, and the limbs of the rest. -/
theorem cpass_val {d : List Nat} (hl : d.length = 5) : (cpass d 5).2 = valL d / 1361129467683753853853498429727072845824 ∧ (cpass d 5).1.length = 5 ∧ (∀ i, (cpass d 5).1.getD i 0 < 67108864) ∧ valL (cpass d 5).1 = valL d % 1361129467683753853853498429727072845824 := by
  obtain ⟨h1, h2, h3⟩ := cpass_rest d 5 (by omega)
  rw [hl] at h2 h3
  have h4 : ∀ i, i < 5 → (cpass d 5).1.getD i 0 = vR 67108864 d 5 / 67108864 ^ i % 67108864 := fun i hi => by rw [h3 i hi, if_pos hi]
  refine ⟨by rw [h1, valL_vR], h2, fun i => ?_, ?_⟩
  · by_cases hi : i < 5
    · rw [h4 i hi]; exact Nat.mod_lt _ (by decide)
    · rw [getD_out (by omega)]; decide
  · rw [valL_vR, valL_vR]
    have key : ∀ m, m ≤ 5 → vR 67108864 (cpass d 5).1 m = vR 67108864 d 5 % 67108864 ^ m := by
      intro m
      induction m with
      | zero => intro _; simp [vR, Nat.mod_one]
      | succ m ih =>
        intro hm
        show vR 67108864 (cpass d 5).1 m + (cpass d 5).1.getD m 0 * 67108864 ^ m = _
        rw [ih (by omega), h4 m (by omega), Nat.mod_pow_succ, Nat.mul_comm (67108864 ^ m)]
    exact key 5 (by omega)
/-- One fold: the value stays modulo 2^130 - 5. -/
theorem fold1_val {d : List Nat} (hl : d.length = 5) : (fold1 d).length = 5 ∧ valL (fold1 d) = valL d % 1361129467683753853853498429727072845824 + 5 * (valL d / 1361129467683753853853498429727072845824) ∧
    (∀ i, (fold1 d).getD i 0 < 67108864 + 5 * (valL d / 1361129467683753853853498429727072845824)) := by
  obtain ⟨h1, h2, h3, h4⟩ := cpass_val hl
  unfold fold1
  refine ⟨by rw [List.length_set, h2], ?_, fun i => ?_⟩
  · rw [valL_vR, vR_set 67108864 _ 0 _ (by omega) 5 (by omega), ← valL_vR, h4, h1]; omega
  · rw [getD_set _ _ _ _ (by omega), h1]
    have := h3 i
    have := h3 0
    split <;> omega
theorem fold_mod (V : Nat) : (V % 1361129467683753853853498429727072845824 + 5 * (V / 1361129467683753853853498429727072845824)) % P130 = V % P130 := by unfold P130; omega
/-- What one step of the product adds. -/
theorem mstep_val {a r d : List Nat} (hl : d.length = 5) {i k : Nat} (hi : i < 5) (hk : k < 5) : (mstep a r d i k).length = 5 ∧ valL (mstep a r d i k) % P130 = (valL d + a.getD i 0 * 67108864 ^ i * (r.getD k 0 * 67108864 ^ k)) % P130 := by
  have hx : a.getD i 0 * 67108864 ^ i * (r.getD k 0 * 67108864 ^ k) = a.getD i 0 * r.getD k 0 * 67108864 ^ (i + k) := by
    rw [Nat.pow_add, Nat.mul_mul_mul_comm]
  unfold mstep
  split
  · rename_i h
    refine ⟨by rw [List.length_set, hl], ?_⟩
    rw [valL_vR, vR_set 67108864 _ _ _ (by omega) 5 (by omega), hx, valL_vR]
  · rename_i h
    refine ⟨by rw [List.length_set, hl], ?_⟩
    rw [valL_vR, vR_set 67108864 _ _ _ (by omega) 5 (by omega), hx, valL_vR]
    obtain ⟨q, hq⟩ : ∃ q, i + k = q + 5 := ⟨i + k - 5, by omega⟩
    rw [hq, Nat.add_sub_cancel, Nat.pow_add, p130]
    generalize a.getD i 0 * r.getD k 0 = x
    generalize vR 67108864 d 5 = V
    generalize 67108864 ^ q = Q
    generalize P130 = p
    have e : x * (Q * (p + 5)) = 5 * x * Q + p * (x * Q) := by
      rw [← Nat.mul_assoc, Nat.mul_add, Nat.add_comm, Nat.mul_comm p, Nat.mul_comm (x * Q) 5, Nat.mul_assoc 5]
    rw [e, ← Nat.add_assoc, Nat.add_mul_mod_self_left]
theorem mrow_succ (a r d : List Nat) (i k : Nat) : mrow a r d i (k + 1) = mstep a r (mrow a r d i k) i k := rfl
theorem mall_succ (a r : List Nat) (i : Nat) : mall a r (i + 1) = mrow a r (mall a r i) i 5 := rfl
theorem mrow_val {a r d : List Nat} (hl : d.length = 5) {i : Nat} (hi : i < 5) (k : Nat) : k ≤ 5 → (mrow a r d i k).length = 5 ∧ valL (mrow a r d i k) % P130 = (valL d + a.getD i 0 * 67108864 ^ i * vR 67108864 r k) % P130 := by
  have hs := fun k => mrow_succ a r d i k
  have hv := vR_succ 67108864 r
  have hm := fun k (hk : k < 5) (hl2 : (mrow a r d i k).length = 5) => mstep_val (a := a) (r := r) hl2 hi hk
  generalize P130 = p at hm ⊢
  induction k with
  | zero =>
    intro _
    refine ⟨hl, ?_⟩
    rw [show vR 67108864 r 0 = 0 from rfl, Nat.mul_zero, Nat.add_zero]; rfl
  | succ k ih =>
    intro hk
    obtain ⟨h1, h2⟩ := ih (by omega)
    obtain ⟨h3, h4⟩ := hm k (by omega) h1
    rw [hs, hv]
    refine ⟨h3, ?_⟩
    rw [h4, Nat.add_mod, h2, ← Nat.add_mod, Nat.mul_add, Nat.add_assoc]
theorem mall_val (a r : List Nat) (i : Nat) : i ≤ 5 → (mall a r i).length = 5 ∧ valL (mall a r i) % P130 = (vR 67108864 a i * vR 67108864 r 5) % P130 := by
  have hs := fun i => mall_succ a r i
  have hv := vR_succ 67108864 a
  have hm := fun i (hi : i < 5) (hl2 : (mall a r i).length = 5) => mrow_val (a := a) (r := r) hl2 hi 5 (Nat.le_refl _)
  generalize P130 = p at hm ⊢
  generalize vR 67108864 r 5 = S at hm ⊢
  induction i with
  | zero =>
    intro _
    refine ⟨rfl, ?_⟩
    rw [show vR 67108864 a 0 = 0 from rfl, Nat.zero_mul, show mall a r 0 = [0, 0, 0, 0, 0] from rfl, show valL [0, 0, 0, 0, 0] = 0 by simp [valL]]
  | succ i ih =>
    intro hi
    obtain ⟨h1, h2⟩ := ih (by omega)
    obtain ⟨h3, h4⟩ := hm i (by omega) h1
    rw [hs, hv]
    refine ⟨h3, ?_⟩
    rw [h4, Nat.add_mod, h2, ← Nat.add_mod, Nat.add_mul]
theorem LB.val {M : Nat} {d : List Nat} (h : LB M d) : valL d ≤ M * 20282409906809557101160937357182 := by
  have h0 := h.le 0; have h1 := h.le 1; have h2 := h.le 2; have h3 := h.le 3; have h4 := h.le 4
  unfold valL; omega
/-- The product: its value, and that its limbs are small again. -/
theorem timesL_val {a r : List Nat} (ha : LB 268435456 a) (hr : LB 67108863 r) : valL (timesL a r) % P130 = (valL a * valL r) % P130 ∧ LB 67108874 (timesL a r) := by
  have hm := mall_b ha hr 5
  obtain ⟨h1, h2⟩ := mall_val a r 5 (by omega)
  obtain ⟨h3, h4, h5⟩ := fold1_val h1
  obtain ⟨h6, h7, h8⟩ := fold1_val h3
  refine ⟨?_, h6, fun i => ?_⟩
  · show valL (fold1 (fold1 (mall a r 5))) % P130 = _
    rw [h7, fold_mod, h4, fold_mod, h2, valL_vR, valL_vR]
  · have hv := hm.val
    have h9 := h8 i
    show (fold1 (fold1 (mall a r 5))).getD i 0 ≤ _
    have hq : valL (fold1 (mall a r 5)) / 1361129467683753853853498429727072845824 ≤ 1 := by rw [h4]; omega
    omega
/-- The limbs of 17 bytes. -/
theorem partN_eq (B : List Nat) (q : Nat) : ∀ k, partN B q k * 256 ^ q + vR 256 B q = vR 256 B (q + k)
  | 0 => by simp [partN]
  | k + 1 => by
    show (partN B q k + B.getD (q + k) 0 * 256 ^ k) * 256 ^ q + vR 256 B q = vR 256 B (q + k) + B.getD (q + k) 0 * 256 ^ (q + k)
    rw [← partN_eq B q k, Nat.add_mul, Nat.mul_assoc, ← Nat.pow_add, Nat.add_comm k q]; omega
theorem limb_arith (V t i : Nat) : V / (256 ^ (26 * i / 8) * 2 ^ (26 * i % 8)) % 67108864 = (V + 256 ^ (26 * i / 8 + 4) * t) / 67108864 ^ i % 67108864 := by
  have e1 : (67108864 : Nat) ^ i = 2 ^ (26 * i) := by rw [show (67108864 : Nat) = 2 ^ 26 from rfl, ← Nat.pow_mul]
  have e2 : 256 ^ (26 * i / 8) * 2 ^ (26 * i % 8) = 2 ^ (26 * i) := by
    rw [show (256 : Nat) = 2 ^ 8 from rfl, ← Nat.pow_mul, ← Nat.pow_add, Nat.div_add_mod]
  have hm : 26 * i % 8 ≤ 6 := by omega
  have e3 : 256 ^ (26 * i / 8 + 4) = 2 ^ (26 * i) * (67108864 * 2 ^ (6 - 26 * i % 8)) := by
    rw [show (256 : Nat) = 2 ^ 8 from rfl, show (67108864 : Nat) = 2 ^ 26 from rfl, ← Nat.pow_mul, ← Nat.pow_add, ← Nat.pow_add]
    congr 1
    omega
  rw [e1, e2, e3, Nat.mul_assoc, Nat.add_mul_div_left _ _ (Nat.two_pow_pos _), Nat.mul_assoc, Nat.add_mul_mod_self_left]
theorem limbN_eq {B : List Nat} (hB : ∀ i, B.getD i 0 < 256) (hl : B.length = 17) (i : Nat) (hi : i < 5) : limbN B (26 * i) = vR 256 B 17 / 67108864 ^ i % 67108864 := by
  have h1 := partN_eq B (26 * i / 8) 4
  have h2 := vR_lt 256 hB (26 * i / 8)
  have e1 : partN B (26 * i / 8) 4 = vR 256 B (26 * i / 8 + 4) / 256 ^ (26 * i / 8) := by
    rw [← h1, Nat.add_comm, Nat.add_mul_div_right _ _ (Nat.pow_pos (by decide)), Nat.div_eq_of_lt h2, Nat.zero_add]
  have h3 : vR 256 B 17 = vR 256 B 21 := (vR_more 256 B 17 (by omega) 4).symm
  obtain ⟨t, ht⟩ : ∃ t, vR 256 B 21 = vR 256 B (26 * i / 8 + 4) + 256 ^ (26 * i / 8 + 4) * t := by
    obtain ⟨t, ht⟩ := vR_ge 256 B (26 * i / 8 + 4) (21 - (26 * i / 8 + 4))
    rw [show 26 * i / 8 + 4 + (21 - (26 * i / 8 + 4)) = 21 by omega] at ht
    exact ⟨t, ht⟩
  unfold limbN
  rw [e1, Nat.div_div_eq_div_mul, h3, ht, limb_arith _ t]
theorem limbsN_get (B : List Nat) {i : Nat} (hi : i < 5) : (limbsN B).getD i 0 = limbN B (26 * i) := by
  have key : ∀ j, j ≤ 5 → ∀ i, i < 5 → (limS B j).getD i 0 = if i < j then limbN B (26 * i) else 0 := by
    intro j
    induction j with
    | zero =>
      intro _ i hi
      rw [if_neg (by omega)]
      show (List.replicate 5 0).getD i 0 = 0
      rw [List.getD_eq_getElem?_getD, List.getElem?_replicate, if_pos hi]; rfl
    | succ j ih =>
      intro hj i hi
      rw [limS, getD_set _ _ _ _ (by rw [limS_len]; omega)]
      by_cases h : j = i
      · subst h; rw [if_pos rfl, if_pos (by omega)]
      · rw [if_neg h, ih (by omega) i hi]
        by_cases h2 : i < j
        · rw [if_pos h2, if_pos (by omega)]
        · rw [if_neg h2, if_neg (by omega)]
  rw [limbsN, key 5 (Nat.le_refl _) i hi, if_pos hi]
theorem limbsN_val {B : List Nat} (hB : ∀ i, B.getD i 0 < 256) (hl : B.length = 17) (hv : vR 256 B 17 < 1361129467683753853853498429727072845824) : valL (limbsN B) = vR 256 B 17 ∧ LB 67108863 (limbsN B) := by
  have hg : ∀ i, i < 5 → (limbsN B).getD i 0 = vR 256 B 17 / 67108864 ^ i % 67108864 := fun i hi => by rw [limbsN_get B hi, limbN_eq hB hl i hi]
  generalize vR 256 B 17 = V at hv hg ⊢
  refine ⟨?_, limS_len B 5, fun i => ?_⟩
  · unfold valL
    rw [hg 0 (by omega), hg 1 (by omega), hg 2 (by omega), hg 3 (by omega), hg 4 (by omega)]
    simp only [Nat.pow_zero, Nat.div_one, Nat.reducePow]
    omega
  · by_cases hi : i < 5
    · rw [hg i hi]; omega
    · rw [getD_out (by rw [limbsN, limS_len]; omega)]; omega
end Obol
