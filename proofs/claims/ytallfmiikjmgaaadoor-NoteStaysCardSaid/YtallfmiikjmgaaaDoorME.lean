import Derived.Test.YtallfmiikjmgaaaDoorMD
import Derived.Test.YtallfmiikjmgaaaDoorMF
set_option linter.unusedVariables false
set_option linter.unusedSimpArgs false
/- Plain: numbers modulo 2^130 - 5: limbs of 26 bits, digits of 8 bits. -/
namespace Obol
def P130 : Nat := 1361129467683753853853498429727072845819
theorem crest_eq (L : List Nat) : ∀ i, crest L i = vR 256 L i / 256 ^ i
  | 0 => by simp [crest, vR]
  | i + 1 => by
    show (crest L i + L.getD i 0) / 256 = _
    rw [crest_eq L i, vR_step 256 (by decide)]
theorem carrS_get (L : List Nat) (n : Nat) : ∀ j i, i < n → (carrS L n j).getD i 0 = if i < j then (crest L i + L.getD i 0) % 256 else 0
  | 0, i, hi => by
    rw [if_neg (by omega)]
    show (List.replicate n 0).getD i 0 = 0
    rw [List.getD_eq_getElem?_getD, List.getElem?_replicate, if_pos hi]; rfl
  | j + 1, i, hi => by
    show ((carrS L n j).set j _).getD i 0 = _
    by_cases hj : j < n
    · rw [getD_set _ _ _ _ (by rw [carrS_len]; exact hj)]
      by_cases h : j = i
      · subst h; rw [if_pos rfl, if_pos (by omega)]
      · rw [if_neg h, carrS_get L n j i hi]
        by_cases h2 : i < j
        · rw [if_pos h2, if_pos (by omega)]
        · rw [if_neg h2, if_neg (by omega)]
    · rw [List.set_eq_of_length_le (by rw [carrS_len]; omega), carrS_get L n j i hi, if_pos (by omega), if_pos (by omega)]
/-- Carried digits are the digits of what was said. -/
theorem carrL_eq (L : List Nat) (n m : Nat) (h : n ≤ m) : carrL L n = digs n (vR 256 L m) := by
  refine ext_getD (by rw [carrL, carrS_len, digs_len]) fun i hi => ?_
  rw [carrL, carrS_len] at hi
  rw [carrL, carrS_get L n n i hi, if_pos hi, digs_get _ _ hi, crest_eq, vR_dig 256 (by decide) L i m (by omega)]
theorem cpass_rest (d : List Nat) : ∀ j, j ≤ d.length → (cpass d j).2 = vR 67108864 d j / 67108864 ^ j ∧ (cpass d j).1.length = d.length ∧ ∀ i, i < d.length → (cpass d j).1.getD i 0 = if i < j then vR 67108864 d d.length / 67108864 ^ i % 67108864 else d.getD i 0
  | 0, _ => ⟨by simp [cpass, vR], rfl, fun i _ => by rw [if_neg (by omega)]; rfl⟩
  | j + 1, hj => by
    obtain ⟨h1, h2, h3⟩ := cpass_rest d j (by omega)
    have hj2 : (cpass d j).1.getD j 0 = d.getD j 0 := by rw [h3 j (by omega), if_neg (by omega)]
    refine ⟨?_, ?_, fun i hi => ?_⟩
    · show ((cpass d j).1.getD j 0 + (cpass d j).2) / 67108864 = _
      rw [hj2, h1, Nat.add_comm, vR_step 67108864 (by decide)]
    · show ((cpass d j).1.set j _).length = _
      rw [List.length_set, h2]
    · show ((cpass d j).1.set j _).getD i 0 = _
      rw [getD_set _ _ _ _ (by omega)]
      by_cases h : j = i
      · subst h
        rw [if_pos rfl, if_pos (by omega), hj2, h1, Nat.add_comm, vR_dig 67108864 (by decide) d j d.length (by omega)]
      · rw [if_neg h, h3 i hi]
        by_cases h4 : i < j
        · rw [if_pos h4, if_pos (by omega)]
        · rw [if_neg h4, if_neg (by omega)]
theorem valL_vR (d : List Nat) : valL d = vR 67108864 d 5 := by simp [valL, vR]
theorem p130 : (67108864 : Nat) ^ 5 = P130 + 5 := by decide
/-- A carry: what stands from bit 130 on, and the limbs of the rest. -/
theorem cpass_val {d : List Nat} (hl : d.length = 5) : (cpass d 5).2 = valL d / 1361129467683753853853498429727072845824 ∧ (cpass d 5).1.length = 5 ∧ (∀ i, (cpass d 5).1.getD i 0 < 67108864) ∧ valL (cpass d 5).1 = valL d % 1361129467683753853853498429727072845824 := by
  obtain ⟨h1, h2, h3⟩ := cpass_rest d 5 (by omega)
  rw [hl] at h2 h3
  have h4 : ∀ i, i < 5 → (cpass d 5).1.getD i 0 = vR 67108864 d 5 / 67108864 ^ i % 67108864 := fun i hi => by rw [h3 i hi, if_pos hi]
  refine ⟨by rw [h1, valL_vR], h2, fun i => ?_, ?_⟩
  · by_cases hi : i < 5
    · rw [h4 i hi]; exact Nat.mod_lt _ (by decide)
    · rw [getD_out (by omega)]; decide
  · rw [valL_vR, valL_vR]
    have key : ∀ m, m ≤ 5 → vR 67108864 (cpass d 5).1 m = vR 67108864 d 5 % 67108864 ^ m := by
      intro m
      induction m with
      | zero => intro _; simp [vR, Nat.mod_one]
      | succ m ih =>
        intro hm
        show vR 67108864 (cpass d 5).1 m + (cpass d 5).1.getD m 0 * 67108864 ^ m = _
        rw [ih (by omega), h4 m (by omega), Nat.mod_pow_succ, Nat.mul_comm (67108864 ^ m)]
    exact key 5 (by omega)
/-- One fold: the value stays modulo 2^130 - 5. -/
theorem fold1_val {d : List Nat} (hl : d.length = 5) : (fold1 d).length = 5 ∧ valL (fold1 d) = valL d % 1361129467683753853853498429727072845824 + 5 * (valL d / 1361129467683753853853498429727072845824) ∧
    (∀ i, (fold1 d).getD i 0 < 67108864 + 5 * (valL d / 1361129467683753853853498429727072845824)) := by
  obtain ⟨h1, h2, h3, h4⟩ := cpass_val hl
  unfold fold1
  refine ⟨by rw [List.length_set, h2], ?_, fun i => ?_⟩
  · rw [valL_vR, vR_set 67108864 _ 0 _ (by omega) 5 (by omega), ← valL_vR, h4, h1]; omega
  · rw [getD_set _ _ _ _ (by omega), h1]
    have := h3 i
    have := h3 0
    split <;> omega
theorem fold_mod (V : Nat) : (V % 1361129467683753853853498429727072845824 + 5 * (V / 1361129467683753853853498429727072845824)) % P130 = V % P130 := by unfold P130; omega
/-- What one step of the product adds. -/
theorem mstep_val {a r d : List Nat} (hl : d.length = 5) {i k : Nat} (hi : i < 5) (hk : k < 5) : (mstep a r d i k).length = 5 ∧ valL (mstep a r d i k) % P130 = (valL d + a.getD i 0 * 67108864 ^ i * (r.getD k 0 * 67108864 ^ k)) % P130 := by
  have hx : a.getD i 0 * 67108864 ^ i * (r.getD k 0 * 67108864 ^ k) = a.getD i 0 * r.getD k 0 * 67108864 ^ (i + k) := by
    rw [Nat.pow_add, Nat.mul_mul_mul_comm]
  unfold mstep
  split
  · rename_i h
    refine ⟨by rw [List.length_set, hl], ?_⟩
    rw [valL_vR, vR_set 67108864 _ _ _ (by omega) 5 (by omega), hx, valL_vR]
  · rename_i h
    refine ⟨by rw [List.length_set, hl], ?_⟩
    rw [valL_vR, vR_set 67108864 _ _ _ (by omega) 5 (by omega), hx, valL_vR]
    obtain ⟨q, hq⟩ : ∃ q, i + k = q + 5 := ⟨i + k - 5, by omega⟩
    rw [hq, Nat.add_sub_cancel, Nat.pow_add, p130]
    generalize a.getD i 0 * r.getD k 0 = x
    generalize vR 67108864 d 5 = V
    generalize 67108864 ^ q = Q
    generalize P130 = p
    have e : x * (Q * (p + 5)) = 5 * x * Q + p * (x * Q) := by
      rw [← Nat.mul_assoc, Nat.mul_add, Nat.add_comm, Nat.mul_comm p, Nat.mul_comm (x * Q) 5, Nat.mul_assoc 5]
    rw [e, ← Nat.add_assoc, Nat.add_mul_mod_self_left]
theorem mrow_succ (a r d : List Nat) (i k : Nat) : mrow a r d i (k + 1) = mstep a r (mrow a r d i k) i k := rfl
theorem mall_succ (a r : List Nat) (i : Nat) : mall a r (i + 1) = mrow a r (mall a r i) i 5 := rfl
theorem mrow_val {a r d : List Nat} (hl : d.length = 5) {i : Nat} (hi : i < 5) (k : Nat) : k ≤ 5 → (mrow a r d i k).length = 5 ∧ valL (mrow a r d i k) % P130 = (valL d + a.getD i 0 * 67108864 ^ i * vR 67108864 r k) % P130 := by
  have hs := fun k => mrow_succ a r d i k
  have hv := vR_succ 67108864 r
  have hm := fun k (hk : k < 5) (hl2 : (mrow a r d i k).length = 5) => mstep_val (a := a) (r := r) hl2 hi hk
  generalize P130 = p at hm ⊢
  induction k with
  | zero =>
    intro _
    refine ⟨hl, ?_⟩
    rw [show vR 67108864 r 0 = 0 from rfl, Nat.mul_zero, Nat.add_zero]; rfl
  | succ k ih =>
    intro hk
    obtain ⟨h1, h2⟩ := ih (by omega)
    obtain ⟨h3, h4⟩ := hm k (by omega) h1
    rw [hs, hv]
    refine ⟨h3, ?_⟩
    rw [h4, Nat.add_mod, h2, ← Nat.add_mod, Nat.mul_add, Nat.add_assoc]
theorem mall_val (a r : List Nat) (i : Nat) : i ≤ 5 → (mall a r i).length = 5 ∧ valL (mall a r i) % P130 = (vR 67108864 a i * vR 67108864 r 5) % P130 := by
  have hs := fun i => mall_succ a r i
  have hv := vR_succ 67108864 a
  have hm := fun i (hi : i < 5) (hl2 : (mall a r i).length = 5) => mrow_val (a := a) (r := r) hl2 hi 5 (Nat.le_refl _)
  generalize P130 = p at hm ⊢
  generalize vR 67108864 r 5 = S at hm ⊢
  induction i with
  | zero =>
    intro _
    refine ⟨rfl, ?_⟩
    rw [show vR 67108864 a 0 = 0 from rfl, Nat.zero_mul, show mall a r 0 = [0, 0, 0, 0, 0] from rfl, show valL [0, 0, 0, 0, 0] = 0 by simp [valL]]
  | succ i ih =>
    intro hi
    obtain ⟨h1, h2⟩ := ih (by omega)
    obtain ⟨h3, h4⟩ := hm i (by omega) h1
    rw [hs, hv]
    refine ⟨h3, ?_⟩
    rw [h4, Nat.add_mod, h2, ← Nat.add_mod, Nat.add_mul]
theorem LB.val {M : Nat} {d : List Nat} (h : LB M d) : valL d ≤ M * 20282409906809557101160937357182 := by
  have h0 := h.le 0; have h1 := h.le 1; have h2 := h.le 2; have h3 := h.le 3; have h4 := h.le 4
  unfold valL; omega
/-- The product: its value, and that its limbs are small again. -/
theorem timesL_val {a r : List Nat} (ha : LB 268435456 a) (hr : LB 67108863 r) : valL (timesL a r) % P130 = (valL a * valL r) % P130 ∧ LB 67108874 (timesL a r) := by
  have hm := mall_b ha hr 5
  obtain ⟨h1, h2⟩ := mall_val a r 5 (by omega)
  obtain ⟨h3, h4, h5⟩ := fold1_val h1
  obtain ⟨h6, h7, h8⟩ := fold1_val h3
  refine ⟨?_, h6, fun i => ?_⟩
  · show valL (fold1 (fold1 (mall a r 5))) % P130 = _
    rw [h7, fold_mod, h4, fold_mod, h2, valL_vR, valL_vR]
  · have hv := hm.val
    have h9 := h8 i
    show (fold1 (fold1 (mall a r 5))).getD i 0 ≤ _
    have hq : valL (fold1 (mall a r 5)) / 1361129467683753853853498429727072845824 ≤ 1 := by rw [h4]; omega
    omega
/-- The limbs of 17 bytes. -/
theorem partN_eq (B : List Nat) (q : Nat) : ∀ k, partN B q k * 256 ^ q + vR 256 B q = vR 256 B (q + k)
  | 0 => by simp [partN]
  | k + 1 => by
    show (partN B q k + B.getD (q + k) 0 * 256 ^ k) * 256 ^ q + vR 256 B q = vR 256 B (q + k) + B.getD (q + k) 0 * 256 ^ (q + k)
    rw [← partN_eq B q k, Nat.add_mul, Nat.mul_assoc, ← Nat.pow_add, Nat.add_comm k q]; omega
theorem limb_arith (V t i : Nat) : V / (256 ^ (26 * i / 8) * 2 ^ (26 * i % 8)) % 67108864 = (V + 256 ^ (26 * i / 8 + 4) * t) / 67108864 ^ i % 67108864 := by
  have e1 : (67108864 : Nat) ^ i = 2 ^ (26 * i) := by rw [show (67108864 : Nat) = 2 ^ 26 from rfl, ← Nat.pow_mul]
  have e2 : 256 ^ (26 * i / 8) * 2 ^ (26 * i % 8) = 2 ^ (26 * i) := by
    rw [show (256 : Nat) = 2 ^ 8 from rfl, ← Nat.pow_mul, ← Nat.pow_add, Nat.div_add_mod]
  have hm : 26 * i % 8 ≤ 6 := by omega
  have e3 : 256 ^ (26 * i / 8 + 4) = 2 ^ (26 * i) * (67108864 * 2 ^ (6 - 26 * i % 8)) := by
    rw [show (256 : Nat) = 2 ^ 8 from rfl, show (67108864 : Nat) = 2 ^ 26 from rfl, ← Nat.pow_mul, ← Nat.pow_add, ← Nat.pow_add]
    congr 1
    omega
  rw [e1, e2, e3, Nat.mul_assoc, Nat.add_mul_div_left _ _ (Nat.two_pow_pos _), Nat.mul_assoc, Nat.add_mul_mod_self_left]
theorem limbN_eq {B : List Nat} (hB : ∀ i, B.getD i 0 < 256) (hl : B.length = 17) (i : Nat) (hi : i < 5) : limbN B (26 * i) = vR 256 B 17 / 67108864 ^ i % 67108864 := by
  have h1 := partN_eq B (26 * i / 8) 4
  have h2 := vR_lt 256 hB (26 * i / 8)
  have e1 : partN B (26 * i / 8) 4 = vR 256 B (26 * i / 8 + 4) / 256 ^ (26 * i / 8) := by
    rw [← h1, Nat.add_comm, Nat.add_mul_div_right _ _ (Nat.pow_pos (by decide)), Nat.div_eq_of_lt h2, Nat.zero_add]
  have h3 : vR 256 B 17 = vR 256 B 21 := (vR_more 256 B 17 (by omega) 4).symm
  obtain ⟨t, ht⟩ : ∃ t, vR 256 B 21 = vR 256 B (26 * i / 8 + 4) + 256 ^ (26 * i / 8 + 4) * t := by
    obtain ⟨t, ht⟩ := vR_ge 256 B (26 * i / 8 + 4) (21 - (26 * i / 8 + 4))
    rw [show 26 * i / 8 + 4 + (21 - (26 * i / 8 + 4)) = 21 by omega] at ht
    exact ⟨t, ht⟩
  unfold limbN
  rw [e1, Nat.div_div_eq_div_mul, h3, ht, limb_arith _ t]
theorem limbsN_get (B : List Nat) {i : Nat} (hi : i < 5) : (limbsN B).getD i 0 = limbN B (26 * i) := by
  have key : ∀ j, j ≤ 5 → ∀ i, i < 5 → (limS B j).getD i 0 = if i < j then limbN B (26 * i) else 0 := by
    intro j
    induction j with
    | zero =>
      intro _ i hi
      rw [if_neg (by omega)]
      show (List.replicate 5 0).getD i 0 = 0
      rw [List.getD_eq_getElem?_getD, List.getElem?_replicate, if_pos hi]; rfl
    | succ j ih =>
      intro hj i hi
      rw [limS, getD_set _ _ _ _ (by rw [limS_len]; omega)]
      by_cases h : j = i
      · subst h; rw [if_pos rfl, if_pos (by omega)]
      · rw [if_neg h, ih (by omega) i hi]
        by_cases h2 : i < j
        · rw [if_pos h2, if_pos (by omega)]
        · rw [if_neg h2, if_neg (by omega)]
  rw [limbsN, key 5 (Nat.le_refl _) i hi, if_pos hi]
theorem limbsN_val {B : List Nat} (hB : ∀ i, B.getD i 0 < 256) (hl : B.length = 17) (hv : vR 256 B 17 < 1361129467683753853853498429727072845824) : valL (limbsN B) = vR 256 B 17 ∧ LB 67108863 (limbsN B) := by
  have hg : ∀ i, i < 5 → (limbsN B).getD i 0 = vR 256 B 17 / 67108864 ^ i % 67108864 := fun i hi => by rw [limbsN_get B hi, limbN_eq hB hl i hi]
  generalize vR 256 B 17 = V at hv hg ⊢
  refine ⟨?_, limS_len B 5, fun i => ?_⟩
  · unfold valL
    rw [hg 0 (by omega), hg 1 (by omega), hg 2 (by omega), hg 3 (by omega), hg 4 (by omega)]
    simp only [Nat.pow_zero, Nat.div_one, Nat.reducePow]
    omega
  · by_cases hi : i < 5
    · rw [hg i hi]; omega
    · rw [getD_out (by rw [limbsN, limS_len]; omega)]; omega
end Obol
/- Plain: the mark of bytes by a key, as a number; the two ways to it. -/
namespace Obol
theorem lessF_eq {L : List Nat} (hB : ∀ i, L.getD i 0 < 256) : ∀ i, lessF L i = decide (vR 256 L (i + 1) + 5 < 256 ^ (i + 1))
  | 0 => by simp only [lessF, vR]; congr 1; simp; omega
  | i + 1 => by
    have ih := lessF_eq hB i
    have h1 := vR_lt 256 hB (i + 1)
    have h2 := hB (i + 1)
    have h3 : 256 ^ (i + 1 + 1) = 256 ^ (i + 1) * 256 := Nat.pow_succ ..
    have h4 : 256 ^ 1 ≤ 256 ^ (i + 1) := Nat.pow_le_pow_right (by decide) (by omega)
    show (if L.getD (i + 1) 0 = 255 then lessF L i else true) = decide (vR 256 L (i + 1) + L.getD (i + 1) 0 * 256 ^ (i + 1) + 5 < 256 ^ (i + 1 + 1))
    rw [h3]
    generalize vR 256 L (i + 1) = V at *
    generalize 256 ^ (i + 1) = E at *
    split
    · rename_i h
      rw [ih, h]
      congr 1
      exact propext ⟨fun h => by omega, fun h => by omega⟩
    · have h5 : L.getD (i + 1) 0 * E ≤ 254 * E := Nat.mul_le_mul_right _ (by omega)
      exact (decide_eq_true (by omega)).symm
theorem lessL_eq {L : List Nat} (hB : ∀ i, L.getD i 0 < 256) (h16 : L.getD 16 0 ≤ 3) : lessL L = decide (vR 256 L 17 < P130) := by
  have h1 := lessF_eq hB 15
  have h2 := vR_lt 256 hB 16
  have e16 : (256 : Nat) ^ 16 = 340282366920938463463374607431768211456 := by decide
  show (if L.getD 16 0 = 3 then lessF L 15 else decide (L.getD 16 0 < 3)) = decide (vR 256 L 16 + L.getD 16 0 * 256 ^ 16 < P130)
  rw [h1]
  show (if L.getD 16 0 = 3 then decide (vR 256 L 16 + 5 < 256 ^ 16) else decide (L.getD 16 0 < 3)) = _
  rw [e16] at h2 ⊢
  unfold P130
  generalize vR 256 L 16 = V at *
  split
  · rename_i h
    rw [h]
    congr 1
    exact propext ⟨fun h => by omega, fun h => by omega⟩
  · congr 1
    exact propext ⟨fun h => by omega, fun h => by omega⟩
/-! one round of the reference's reduction -/
def highL (x : List Nat) : List Nat := (List.range 24).map fun i => x.getD (16 + i) 0 / 4 + (if i < 23 then x.getD (17 + i) 0 % 4 * 64 else 0)
def lowL (x : List Nat) : List Nat := (x.take 17).set 16 (x.getD 16 0 % 4)
def nextL (h l : List Nat) : List Nat := (List.range 24).map fun i => if i < 17 then 5 * h.getD i 0 + l.getD i 0 else 5 * h.getD i 0
theorem range_get {f : Nat → Nat} {n i : Nat} (h : i < n) : ((List.range n).map f).getD i 0 = f i := by
  rw [List.getD_eq_getElem?_getD, List.getElem?_map, List.getElem?_range h]
  rfl
theorem pow_add_div (V k j : Nat) : V / 256 ^ (k + j) = V / 256 ^ k / 256 ^ j := by rw [Nat.pow_add, Nat.div_div_eq_div_mul]
theorem highL_eq {V : Nat} (hV : V < 256 ^ 40) : highL (digs 40 V) = digs 24 (V / 1361129467683753853853498429727072845824) := by
  refine ext_getD (by simp [highL, digs_len]) fun i hi => ?_
  have hi : i < 24 := by simpa [highL] using hi
  rw [digs_get _ _ hi]
  unfold highL
  rw [range_get hi, digs_get _ _ (by omega)]
  have e : V / 1361129467683753853853498429727072845824 / 256 ^ i = V / 256 ^ (16 + i) / 4 := by
    rw [show (1361129467683753853853498429727072845824 : Nat) = 256 ^ 16 * 4 by decide, Nat.pow_add, Nat.div_div_eq_div_mul, Nat.div_div_eq_div_mul, Nat.mul_assoc, Nat.mul_assoc, Nat.mul_comm 4]
  rw [e]
  have e2 : V / 256 ^ (17 + i) = V / 256 ^ (16 + i) / 256 := by rw [show 17 + i = 16 + i + 1 by omega, Nat.pow_succ, Nat.div_div_eq_div_mul]
  split
  · rw [digs_get _ _ (by omega), e2]
    generalize V / 256 ^ (16 + i) = X
    omega
  · obtain rfl : i = 23 := by omega
    have h2 : V / 256 ^ (16 + 23) < 256 := by
      rw [Nat.div_lt_iff_lt_mul (Nat.pow_pos (by decide)), Nat.mul_comm, ← Nat.pow_succ]
      exact hV
    generalize V / 256 ^ (16 + 23) = X at *
    omega
theorem lowL_eq (V : Nat) : lowL (digs 40 V) = digs 17 (V % 1361129467683753853853498429727072845824) := by
  refine ext_getD (by simp [lowL, digs_len]) fun i hi => ?_
  have hi : i < 17 := by simpa [lowL, digs_len] using hi
  unfold lowL
  rw [getD_set _ _ _ _ (by simp [digs_len]), digs_get _ _ hi, digs_get _ _ (by omega)]
  have e : (1361129467683753853853498429727072845824 : Nat) = 256 ^ 16 * 4 := by decide
  split
  · rename_i h
    subst h
    rw [e, Nat.mod_mul_right_div_self]
    generalize V / 256 ^ 16 = X
    omega
  · rename_i h
    rw [List.getD_eq_getElem?_getD, List.getElem?_take, if_pos hi, ← List.getD_eq_getElem?_getD, digs_get _ _ (by omega)]
    obtain ⟨q, hq⟩ : ∃ q, 256 ^ 16 * 4 = 256 ^ i * (256 * q) := ⟨256 ^ (15 - i) * 4, by rw [show (16 : Nat) = i + (1 + (15 - i)) by omega, Nat.pow_add, Nat.pow_add]; simp only [Nat.mul_assoc, Nat.pow_one, Nat.add_sub_cancel_left, show i + (1 + (15 - i)) - i - 1 = 15 - i by omega]⟩
    rw [e, hq, Nat.mod_mul_right_div_self, Nat.mod_mul_right_mod]
theorem nextL_val (h l : List Nat) (hl : l.length = 17) : vR 256 (nextL h l) 40 = 5 * vR 256 h 24 + vR 256 l 17 := by
  have h1 : vR 256 (nextL h l) 40 = vR 256 (nextL h l) 24 := vR_more 256 _ 24 (by simp [nextL]) 16
  have h2 : vR 256 l 24 = vR 256 l 17 := vR_more 256 _ 17 (by omega) 7
  rw [h1, ← h2]
  have key : ∀ m, m ≤ 24 → vR 256 (nextL h l) m = 5 * vR 256 h m + vR 256 l m := by
    intro m
    induction m with
    | zero => intro _; rfl
    | succ m ih =>
      intro hm
      show vR 256 (nextL h l) m + (nextL h l).getD m 0 * 256 ^ m = 5 * (vR 256 h m + h.getD m 0 * 256 ^ m) + (vR 256 l m + l.getD m 0 * 256 ^ m)
      rw [ih (by omega)]
      unfold nextL
      rw [range_get (by omega)]
      have : (if m < 17 then 5 * h.getD m 0 + l.getD m 0 else 5 * h.getD m 0) = 5 * h.getD m 0 + l.getD m 0 := by
        split
        · rfl
        · rw [getD_out (L := l) (by omega)]; rfl
      rw [this, Nat.add_mul, Nat.mul_assoc]
      omega
  exact key 24 (by omega)
/-- The value behind a round. -/
def nextV (V : Nat) : Nat := 5 * (V / 1361129467683753853853498429727072845824) + V % 1361129467683753853853498429727072845824
theorem nextV_mod (V : Nat) : nextV V % P130 = V % P130 := by rw [← fold_mod V]; unfold nextV; rw [Nat.add_comm]
theorem nextV_lt {V : Nat} (h : 0 < V / 1361129467683753853853498429727072845824) : nextV V < V := by unfold nextV; omega
theorem next_digs {V : Nat} (hV : V < 256 ^ 40) : carrL (nextL (digs 24 (V / 1361129467683753853853498429727072845824)) (digs 17 (V % 1361129467683753853853498429727072845824))) 40 = digs 40 (nextV V) := by
  rw [carrL_eq _ 40 40 (Nat.le_refl _), nextL_val _ _ (digs_len _ _), vR_digs 24 _ 24 (Nat.le_refl _), vR_digs 17 _ 17 (Nat.le_refl _)]
  unfold nextV
  rw [Nat.mod_eq_of_lt (b := 256 ^ 24), Nat.mod_eq_of_lt (b := 256 ^ 17)]
  · exact Nat.lt_of_lt_of_le (Nat.mod_lt _ (by decide)) (by decide)
  · have e : (256 : Nat) ^ 40 = 2135987035920910082395021706169552114602704522356652769947041607822219725780640550022962086936576 := by decide
    have e2 : (256 : Nat) ^ 24 = 6277101735386680763835789423207666416102355444464034512896 := by decide
    rw [e] at hV
    rw [e2]
    omega
/-- What the last round gives. -/
theorem last_digs {V : Nat} (h : V / 1361129467683753853853498429727072845824 = 0) : (if lessL (digs 17 V) then digs 17 V else lowL (carrL ((digs 17 V).set 0 ((digs 17 V).getD 0 0 + 5)) 17)) = digs 17 (V % P130) := by
  have hV : V < 1361129467683753853853498429727072845824 := by omega
  have h16 : (digs 17 V).getD 16 0 ≤ 3 := by
    rw [digs_get _ _ (by omega)]
    have : V / 256 ^ 16 < 4 := by
      rw [Nat.div_lt_iff_lt_mul (Nat.pow_pos (by decide))]
      exact Nat.lt_of_lt_of_le hV (by decide)
    omega
  have hv : vR 256 (digs 17 V) 17 = V := by
    rw [vR_digs 17 _ 17 (Nat.le_refl _), Nat.mod_eq_of_lt (Nat.lt_of_lt_of_le hV (by decide))]
  rw [lessL_eq (digs_lt 17 V) h16, hv]
  by_cases hp : V < P130
  · rw [if_pos (decide_eq_true hp), Nat.mod_eq_of_lt hp]
  · rw [if_neg (by simp; omega), carrL_eq _ 17 17 (Nat.le_refl _), vR_set 256 _ 0 5 (by rw [digs_len]; omega) 17 (by omega), hv]
    have e : V % P130 = (V + 5 * 256 ^ 0) % 1361129467683753853853498429727072845824 := by unfold P130 at hp ⊢; omega
    rw [e, ← lowL_eq]
    unfold lowL
    refine ext_getD (by simp [digs_len]) fun i hi => ?_
    have hi : i < 17 := by simpa [digs_len] using hi
    rw [getD_set _ _ _ _ (by simp [digs_len]), getD_set _ _ _ _ (by simp [digs_len])]
    rw [digs_get 17 _ (show 16 < 17 by omega), digs_get 40 _ (show 16 < 40 by omega)]
    split
    · rfl
    · rw [List.getD_eq_getElem?_getD, List.getD_eq_getElem?_getD, List.getElem?_take, List.getElem?_take, if_pos hi, if_pos hi, ← List.getD_eq_getElem?_getD, ← List.getD_eq_getElem?_getD, digs_get _ _ hi, digs_get _ _ (by omega)]
end Obol
/- Plain: the mark of bytes: what the rounds hold. -/
namespace Obol
/-- One list added to another, place by place. -/
def accS (h l : List Nat) : Nat → List Nat
  | 0 => h
  | j + 1 => (accS h l j).set j ((accS h l j).getD j 0 + l.getD j 0)
theorem accS_len (h l : List Nat) : ∀ j, (accS h l j).length = h.length
  | 0 => rfl
  | j + 1 => by rw [accS, List.length_set, accS_len h l j]
theorem accS_get (h l : List Nat) : ∀ j i, j ≤ h.length → (accS h l j).getD i 0 = if i < j then h.getD i 0 + l.getD i 0 else h.getD i 0
  | 0, i, _ => by rw [if_neg (by omega)]; rfl
  | j + 1, i, hj => by
    show ((accS h l j).set j _).getD i 0 = _
    rw [getD_set _ _ _ _ (by rw [accS_len]; omega)]
    by_cases h1 : j = i
    · subst h1; rw [if_pos rfl, if_pos (by omega), accS_get h l j j (by omega), if_neg (by omega)]
    · rw [if_neg h1, accS_get h l j i (by omega)]
      by_cases h2 : i < j
      · rw [if_pos h2, if_pos (by omega)]
      · rw [if_neg h2, if_neg (by omega)]
theorem accS_val (R : Nat) (h l : List Nat) (n : Nat) (hn : h.length = n) : ∀ j, j ≤ n → vR R (accS h l j) n = vR R h n + vR R l j
  | 0, _ => rfl
  | j + 1, hj => by
    show vR R ((accS h l j).set j ((accS h l j).getD j 0 + l.getD j 0)) n = vR R h n + (vR R l j + l.getD j 0 * R ^ j)
    rw [vR_set R _ j _ (by rw [accS_len]; omega) n (by omega), accS_val R h l n hn j (by omega), Nat.add_assoc]
/-- So many bytes stand in a block. -/
def blkW (n at' : Nat) : Nat := min 16 (n - at')
def blkN (B : List Nat) (at' : Nat) : Nat := vR 256 (B.drop at') (blkW B.length at') + 256 ^ blkW B.length at'
/-- The key's first half, as it is used. -/
def clampL (K : List Nat) : List Nat := (List.range 16).map fun i => if i % 4 = 3 then K.getD i 0 % 16 else if i % 4 = 0 ∧ 0 < i then K.getD i 0 / 4 * 4 else K.getD i 0
def rkN (K : List Nat) : Nat := vR 256 (clampL K) 16
def macc (r : Nat) (B : List Nat) : Nat → Nat
  | 0 => 0
  | j + 1 => (macc r B j + blkN B (16 * j)) * r % P130
theorem macc_lt (r : Nat) (B : List Nat) : ∀ j, macc r B j < P130
  | 0 => (by decide : 0 < P130)
  | j + 1 => Nat.mod_lt _ (by decide)
def mblocks (n : Nat) : Nat := (n + 15) / 16
/-- The mark. -/
def markL (K B : List Nat) : List Nat := carrL (accS (digs 17 (macc (rkN K) B (mblocks B.length))) (K.drop 16) 16) 16
theorem markL_len (K B : List Nat) : (markL K B).length = 16 := by rw [markL, carrL, carrS_len]
theorem markL_lt (K B : List Nat) (i : Nat) : (markL K B).getD i 0 < 256 := by
  rw [markL, carrL_eq _ 16 16 (Nat.le_refl _)]
  exact digs_lt _ _ _
theorem clampL_lt {K : List Nat} (h : ∀ i, K.getD i 0 < 256) (i : Nat) : (clampL K).getD i 0 < 256 := by
  by_cases hi : i < 16
  · unfold clampL
    rw [range_get hi]
    have := h i
    split
    · omega
    · split <;> omega
  · rw [getD_out (by simp [clampL]; omega)]; decide
theorem rkN_lt {K : List Nat} (h : ∀ i, K.getD i 0 < 256) : rkN K < 21267647932558653966460912964485513216 := by
  have h1 := vR_lt 256 (clampL_lt h) 15
  have h2 : (clampL K).getD 15 0 < 16 := by unfold clampL; rw [range_get (by omega), if_pos (by omega)]; omega
  have h3 : (clampL K).getD 15 0 * 256 ^ 15 ≤ 15 * 256 ^ 15 := Nat.mul_le_mul_right _ (by omega)
  have e : (256 : Nat) ^ 15 = 1329227995784915872903807060280344576 := by decide
  show vR 256 (clampL K) 15 + (clampL K).getD 15 0 * 256 ^ 15 < _
  rw [e] at h1 h3 ⊢
  omega
/-! the program's way: limbs -/
/-- The block's 17 bytes. -/
def xblk (B : List Nat) (at' : Nat) : List Nat := (B.drop at').take (blkW B.length at') ++ 1 :: List.replicate (16 - blkW B.length at') 0
theorem xblk_len {B : List Nat} {at' : Nat} (_ : at' < B.length) : (xblk B at').length = 17 := by
  have h2 : blkW B.length at' ≤ B.length - at' := Nat.min_le_right ..
  have h3 : blkW B.length at' ≤ 16 := Nat.min_le_left ..
  simp [xblk]; omega
theorem xblk_get {B : List Nat} {at' : Nat} (i : Nat) : (xblk B at').getD i 0 = if i < blkW B.length at' then B.getD (at' + i) 0 else if i = blkW B.length at' then 1 else 0 := by
  have h2 : blkW B.length at' ≤ B.length - at' := Nat.min_le_right ..
  have hl : ((B.drop at').take (blkW B.length at')).length = blkW B.length at' := by simp; omega
  unfold xblk
  rw [List.getD_eq_getElem?_getD]
  by_cases h : i < blkW B.length at'
  · rw [if_pos h, List.getElem?_append_left (by omega), List.getElem?_take, if_pos h, List.getElem?_drop, ← List.getD_eq_getElem?_getD]
  · rw [if_neg h, List.getElem?_append_right (by omega), hl]
    split
    · rename_i e
      rw [e, Nat.sub_self]; rfl
    · obtain ⟨k, hk⟩ : ∃ k, i - blkW B.length at' = k + 1 := ⟨i - blkW B.length at' - 1, by omega⟩
      rw [hk, List.getElem?_cons_succ, List.getElem?_replicate]
      split <;> rfl
theorem xblk_lt {B : List Nat} (h : ∀ i, B.getD i 0 < 256) (at' i : Nat) : (xblk B at').getD i 0 < 256 := by
  rw [xblk_get]
  split
  · exact h _
  · split <;> decide
theorem xblk_val (B : List Nat) (at' : Nat) : vR 256 (xblk B at') 17 = blkN B at' := by
  have h3 : blkW B.length at' ≤ 16 := Nat.min_le_left ..
  have key : ∀ m, vR 256 (xblk B at') m = if m ≤ blkW B.length at' then vR 256 (B.drop at') m else blkN B at' := by
    intro m
    induction m with
    | zero => rw [if_pos (by omega)]; rfl
    | succ m ih =>
      show vR 256 (xblk B at') m + (xblk B at').getD m 0 * 256 ^ m = _
      rw [ih, xblk_get]
      by_cases h : m < blkW B.length at'
      · rw [if_pos (by omega), if_pos h, if_pos (by omega)]
        show _ = vR 256 (B.drop at') m + (B.drop at').getD m 0 * 256 ^ m
        congr 2
        rw [List.getD_eq_getElem?_getD, List.getD_eq_getElem?_getD, List.getElem?_drop]
      · rw [if_neg h, if_neg (by omega : ¬ m + 1 ≤ _)]
        by_cases h2 : m = blkW B.length at'
        · rw [if_pos (by omega), if_pos h2, Nat.one_mul, h2]; rfl
        · rw [if_neg (by omega), if_neg h2]; omega
  rw [key 17, if_neg (by omega)]
theorem blkN_lt {B : List Nat} (h : ∀ i, B.getD i 0 < 256) (at' : Nat) : blkN B at' < 680564733841876926926749214863536422912 := by
  have h3 : blkW B.length at' ≤ 16 := Nat.min_le_left ..
  have h4 : 256 ^ blkW B.length at' ≤ 256 ^ 16 := Nat.pow_le_pow_right (by decide) h3
  have h5 := vR_lt 256 (L := B.drop at') (fun i => by rw [List.getD_eq_getElem?_getD, List.getElem?_drop, ← List.getD_eq_getElem?_getD]; exact h _) (blkW B.length at')
  have e : (256 : Nat) ^ 16 = 340282366920938463463374607431768211456 := by decide
  unfold blkN
  omega
/-- One round of the program: limbs added, multiplied. -/
theorem round_val {h r : List Nat} {B K : List Nat} (hB : ∀ i, B.getD i 0 < 256) (hK : ∀ i, K.getD i 0 < 256) (hh : LB 67108874 h) (hr : valL r = rkN K) (hrb : LB 67108863 r) {j : Nat} (hj : 16 * j < B.length) (hv : valL h % P130 = macc (rkN K) B j) :
    valL (timesL (accS h (limbsN (xblk B (16 * j))) 5) r) % P130 = macc (rkN K) B (j + 1) ∧ LB 67108874 (timesL (accS h (limbsN (xblk B (16 * j))) 5) r) ∧ LB 268435456 (accS h (limbsN (xblk B (16 * j))) 5) := by
  obtain ⟨h1, h2⟩ := limbsN_val (xblk_lt hB (16 * j)) (xblk_len hj) (by rw [xblk_val]; have := blkN_lt hB (16 * j); omega)
  have h3 : LB 268435456 (accS h (limbsN (xblk B (16 * j))) 5) := ⟨by rw [accS_len, hh.len], fun i => by
    rw [accS_get _ _ _ _ (by rw [hh.len]; omega)]
    have := hh.le i
    have := h2.le i
    split <;> omega⟩
  obtain ⟨h4, h5⟩ := timesL_val h3 hrb
  refine ⟨?_, h5, h3⟩
  have h6 : valL (accS h (limbsN (xblk B (16 * j))) 5) = valL h + blkN B (16 * j) := by
    rw [valL_vR, accS_val 67108864 h _ 5 hh.len 5 (Nat.le_refl _), ← valL_vR, ← valL_vR, h1, xblk_val]
  show _ = (macc (rkN K) B j + blkN B (16 * j)) * rkN K % P130
  rw [h4, h6, hr, Nat.mul_mod (valL h + _), Nat.add_mod (valL h), hv, Nat.mul_mod (macc (rkN K) B j + blkN B (16 * j)) (rkN K), Nat.add_mod (macc (rkN K) B j) (blkN B (16 * j)), Nat.mod_eq_of_lt (macc_lt _ _ _)]
/-! the reference's way: digits -/
def prow (h r p : List Nat) (i : Nat) : Nat → List Nat
  | 0 => p
  | j + 1 => (prow h r p i j).set (i + j) ((prow h r p i j).getD (i + j) 0 + h.getD i 0 * r.getD j 0)
def pall (h r : List Nat) : Nat → List Nat
  | 0 => List.replicate 34 0
  | i + 1 => prow h r (pall h r i) i 16
/-- Not longer, not greater. -/
structure DB (n M : Nat) (d : List Nat) : Prop where
  len : d.length = n
  le : ∀ i, d.getD i 0 ≤ M
theorem DB.put {n M N : Nat} {d : List Nat} (h : DB n M d) (hN : M ≤ N) (i v : Nat) (hv : v ≤ N) : DB n N (d.set i v) := ⟨by rw [List.length_set]; exact h.len, fun j => by
  rw [List.getD_eq_getElem?_getD, List.getElem?_set]
  split
  · split
    · exact hv
    · exact Nat.zero_le _
  · rw [← List.getD_eq_getElem?_getD]; exact Nat.le_trans (h.le j) hN⟩
theorem prow_b {h r : List Nat} (hh : ∀ i, h.getD i 0 ≤ 1000) (hr : ∀ i, r.getD i 0 ≤ 255) {p : List Nat} {c : Nat} (hp : DB 34 (c * 255000) p) (i : Nat) : ∀ j, DB 34 ((c + j) * 255000) (prow h r p i j)
  | 0 => hp
  | j + 1 => by
    have ih := prow_b hh hr hp i j
    have hm : h.getD i 0 * r.getD j 0 ≤ 1000 * 255 := Nat.mul_le_mul (hh i) (hr j)
    exact ih.put (by omega) _ _ (by have := ih.le (i + j); omega)
theorem pall_b {h r : List Nat} (hh : ∀ i, h.getD i 0 ≤ 1000) (hr : ∀ i, r.getD i 0 ≤ 255) : ∀ i, DB 34 (16 * i * 255000) (pall h r i)
  | 0 => ⟨by simp [pall], fun i => by
    show (List.replicate 34 0).getD i 0 ≤ _
    rw [List.getD_eq_getElem?_getD, List.getElem?_replicate]
    split <;> simp⟩
  | i + 1 => by
    have := prow_b hh hr (pall_b hh hr i) i 16
    rwa [show (16 * i + 16) * 255000 = 16 * (i + 1) * 255000 by omega] at this
theorem prow_val {h r p : List Nat} (hp : p.length = 34) {i : Nat} (hi : i < 17) (j : Nat) : j ≤ 16 → (prow h r p i j).length = 34 ∧ vR 256 (prow h r p i j) 34 = vR 256 p 34 + h.getD i 0 * 256 ^ i * vR 256 r j := by
  have hs : ∀ j, prow h r p i (j + 1) = (prow h r p i j).set (i + j) ((prow h r p i j).getD (i + j) 0 + h.getD i 0 * r.getD j 0) := fun _ => rfl
  have hv := vR_succ 256 r
  induction j with
  | zero =>
    intro _
    refine ⟨hp, ?_⟩
    rw [show vR 256 r 0 = 0 from rfl, Nat.mul_zero, Nat.add_zero]; rfl
  | succ j ih =>
    intro hj
    obtain ⟨h1, h2⟩ := ih (by omega)
    rw [hs, hv]
    refine ⟨by rw [List.length_set, h1], ?_⟩
    rw [vR_set 256 _ _ _ (by omega) 34 (by omega), h2, Nat.mul_add, Nat.pow_add, Nat.add_assoc, Nat.mul_mul_mul_comm]
theorem pall_val (h r : List Nat) (i : Nat) : i ≤ 17 → (pall h r i).length = 34 ∧ vR 256 (pall h r i) 34 = vR 256 h i * vR 256 r 16 := by
  have hs : ∀ i, pall h r (i + 1) = prow h r (pall h r i) i 16 := fun _ => rfl
  have hv := vR_succ 256 h
  have hz : vR 256 (pall h r 0) 34 = 0 := by
    have : ∀ n, vR 256 (List.replicate 34 0) n = 0 := by
      intro n
      induction n with
      | zero => rfl
      | succ n ih =>
        rw [vR_succ, ih, List.getD_eq_getElem?_getD, List.getElem?_replicate]
        split <;> simp
    exact this 34
  have hm := fun i (hi : i < 17) (hl : (pall h r i).length = 34) => prow_val (h := h) (r := r) hl hi 16 (Nat.le_refl _)
  generalize vR 256 r 16 = S at hm ⊢
  induction i with
  | zero =>
    intro _
    refine ⟨by simp [pall], ?_⟩
    rw [hz, show vR 256 h 0 = 0 from rfl, Nat.zero_mul]
  | succ i ih =>
    intro hi
    obtain ⟨h1, h2⟩ := ih (by omega)
    obtain ⟨h3, h4⟩ := hm i (by omega) h1
    rw [hs, hv]
    refine ⟨h3, ?_⟩
    rw [h4, h2, Nat.add_mul]
/-- The block added to the digits. -/
def addB (h B : List Nat) (at' : Nat) : List Nat := (accS h (B.drop at') (blkW B.length at')).set (blkW B.length at') ((accS h (B.drop at') (blkW B.length at')).getD (blkW B.length at') 0 + 1)
theorem addB_val {h B : List Nat} (hl : h.length = 17) (at' : Nat) : vR 256 (addB h B at') 17 = vR 256 h 17 + blkN B at' := by
  have h3 : blkW B.length at' ≤ 16 := Nat.min_le_left ..
  unfold addB blkN
  rw [vR_set 256 _ _ _ (by rw [accS_len]; omega) 17 (by omega), accS_val 256 h _ 17 hl _ (by omega)]
  omega
theorem addB_le {h B : List Nat} (hl : h.length = 17) (hh : ∀ i, h.getD i 0 < 256) (hB : ∀ i, B.getD i 0 < 256) (at' i : Nat) : (addB h B at').getD i 0 ≤ 1000 := by
  have h3 : blkW B.length at' ≤ 16 := Nat.min_le_left ..
  have hg : ∀ i, (accS h (B.drop at') (blkW B.length at')).getD i 0 ≤ 510 := fun i => by
    rw [accS_get _ _ _ _ (by omega)]
    have h1 := hh i
    have h2 : (B.drop at').getD i 0 < 256 := by rw [List.getD_eq_getElem?_getD, List.getElem?_drop, ← List.getD_eq_getElem?_getD]; exact hB _
    split <;> omega
  unfold addB
  rw [getD_set _ _ _ _ (by rw [accS_len]; omega)]
  have := hg i
  have := hg (blkW B.length at')
  split <;> omega
/-- One round of the reference. -/
theorem ref_val {B K : List Nat} {j : Nat} {h : List Nat} (hl : h.length = 17) (hv : h = digs 17 (macc (rkN K) B j)) : vR 256 (pall (addB h B (16 * j)) (clampL K) 17) 36 % P130 = macc (rkN K) B (j + 1) := by
  obtain ⟨h1, h2⟩ := pall_val (addB h B (16 * j)) (clampL K) 17 (Nat.le_refl _)
  rw [vR_more 256 _ 34 (by omega) 2, h2, addB_val hl]
  have h3 : vR 256 h 17 = macc (rkN K) B j := by
    rw [hv, vR_digs 17 _ 17 (Nat.le_refl _), Nat.mod_eq_of_lt]
    exact Nat.lt_of_lt_of_le (macc_lt _ _ _) (by decide)
  rw [h3]
  rfl
end Obol
