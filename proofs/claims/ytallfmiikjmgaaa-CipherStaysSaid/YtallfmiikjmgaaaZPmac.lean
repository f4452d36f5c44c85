import Derived.Test.YtallfmiikjmgaaaZPmarkn
set_option linter.unusedVariables false
set_option linter.unusedSimpArgs false
/- Plain: the mark of bytes: what the rounds hold. -/
namespace Obol
/-- One list added to another, place by place. -/
def accS (h l : List Nat) : Nat → List Nat
  | 0 => h
  | j + 1 => (accS h l j).set j ((accS h l j).getD j 0 + l.getD j 0)
theorem accS_len (h l : List Nat) : ∀ j, (accS h l j).length = h.length
  | 0 => rfl
  | j + 1 => by rw [accS, List.length_set, accS_len h l j]
theorem accS_get (h l : List Nat) : ∀ j i, j ≤ h.length → (accS h l j).getD i 0 = if i < j then h.getD i 0 + l.getD i 0 else h.getD i 0
  | 0, i, _ => by rw [if_neg (by omega)]; rfl
  | j + 1, i, hj => by
    show ((accS h l j).set j _).getD i 0 = _
    rw [getD_set _ _ _ _ (by rw [accS_len]; omega)]
    by_cases h1 : j = i
    · subst h1; rw [if_pos rfl, if_pos (by omega), accS_get h l j j (by omega), if_neg (by omega)]
    · rw [if_neg h1, accS_get h l j i (by omega)]
      by_cases h2 : i < j
      · rw [if_pos h2, if_pos (by omega)]
      · rw [if_neg h2, if_neg (by omega)]
theorem accS_val (R : Nat) (h l : List Nat) (n : Nat) (hn : h.length = n) : ∀ j, j ≤ n → vR R (accS h l j) n = vR R h n + vR R l j
  | 0, _ => rfl
  | j + 1, hj => by
    show vR R ((accS h l j).set j ((accS h l j).getD j 0 + l.getD j 0)) n = vR R h n + (vR R l j + l.getD j 0 * R ^ j)
    rw [vR_set R _ j _ (by rw [accS_len]; omega) n (by omega), accS_val R h l n hn j (by omega), Nat.add_assoc]
/-- So many bytes stand in a block. -/
def blkW (n at' : Nat) : Nat := min 16 (n - at')
def blkN (B : List Nat) (at' : Nat) : Nat := vR 256 (B.drop at') (blkW B.length at') + 256 ^ blkW B.length at'
/-- The key's first half, as it is used. -/
def clampL (K : List Nat) : List Nat := (List.range 16).map fun i => if i % 4 = 3 then K.getD i 0 % 16 else if i % 4 = 0 ∧ 0 < i then K.getD i 0 / 4 * 4 else K.getD i 0
def rkN (K : List Nat) : Nat := vR 256 (clampL K) 16
def macc (r : Nat) (B : List Nat) : Nat → Nat
  | 0 => 0
  | j + 1 => (macc r B j + blkN B (16 * j)) * r % P130
theorem macc_lt (r : Nat) (B : List Nat) : ∀ j, macc r B j < P130
  | 0 => (by decide : 0 < P130)
  | j + 1 => Nat.mod_lt _ (by decide)
def mblocks (n : Nat) : Nat := (n + 15) / 16
/-- The mark. -/
def markL (K B : List Nat) : List Nat := carrL (accS (digs 17 (macc (rkN K) B (mblocks B.length))) (K.drop 16) 16) 16
theorem markL_len (K B : List Nat) : (markL K B).length = 16 := by rw [markL, carrL, carrS_len]
theorem markL_lt (K B : List Nat) (i : Nat) : (markL K B).getD i 0 < 256 := by
  rw [markL, carrL_eq _ 16 16 (Nat.le_refl _)]
  exact digs_lt _ _ _
theorem clampL_lt {K : List Nat} (h : ∀ i, K.getD i 0 < 256) (i : Nat) : (clampL K).getD i 0 < 256 := by
  by_cases hi : i < 16
  · unfold clampL
    rw [range_get hi]
    have := h i
    split
    · omega
    · split <;> omega
  · rw [getD_out (by simp [clampL]; omega)]; decide
theorem rkN_lt {K : List Nat} (h : ∀ i, K.getD i 0 < 256) : rkN K < 21267647932558653966460912964485513216 := by
  have h1 := vR_lt 256 (clampL_lt h) 15
  have h2 : (clampL K).getD 15 0 < 16 := by unfold clampL; rw [range_get (by omega), if_pos (by omega)]; omega
  have h3 : (clampL K).getD 15 0 * 256 ^ 15 ≤ 15 * 256 ^ 15 := Nat.mul_le_mul_right _ (by omega)
  have e : (256 : Nat) ^ 15 = 1329227995784915872903807060280344576 := by decide
  show vR 256 (clampL K) 15 + (clampL K).getD 15 0 * 256 ^ 15 < _
  rw [e] at h1 h3 ⊢
  omega
/-! the program's way: limbs -/
/-- The block's 17 bytes. -/
def xblk (B : List Nat) (at' : Nat) : List Nat := (B.drop at').take (blkW B.length at') ++ 1 :: List.replicate (16 - blkW B.length at') 0
theorem xblk_len {B : List Nat} {at' : Nat} (_ : at' < B.length) : (xblk B at').length = 17 := by
  have h2 : blkW B.length at' ≤ B.length - at' := Nat.min_le_right ..
  have h3 : blkW B.length at' ≤ 16 := Nat.min_le_left ..
  simp [xblk]; omega
theorem xblk_get {B : List Nat} {at' : Nat} (i : Nat) : (xblk B at').getD i 0 = if i < blkW B.length at' then B.getD (at' + i) 0 else if i = blkW B.length at' then 1 else 0 := by
  have h2 : blkW B.length at' ≤ B.length - at' := Nat.min_le_right ..
  have hl : ((B.drop at').take (blkW B.length at')).length = blkW B.length at' := by simp; omega
  unfold xblk
  rw [List.getD_eq_getElem?_getD]
  by_cases h : i < blkW B.length at'
  · rw [if_pos h, List.getElem?_append_left (by omega), List.getElem?_take, if_pos h, List.getElem?_drop, ← List.getD_eq_getElem?_getD]
  · rw [if_neg h, List.getElem?_append_right (by omega), hl]
    split
    · rename_i e
      rw [e, Nat.sub_self]; rfl
    · obtain ⟨k, hk⟩ : ∃ k, i - blkW B.length at' = k + 1 := ⟨i - blkW B.length at' - 1, by omega⟩
      rw [hk, List.getElem?_cons_succ, List.getElem?_replicate]
      split <;> rfl
theorem xblk_lt {B : List Nat} (h : ∀ i, B.getD i 0 < 256) (at' i : Nat) : (xblk B at').getD i 0 < 256 := by
  rw [xblk_get]
  split
  · exact h _
  · split <;> decide
theorem xblk_val (B : List Nat) (at' : Nat) : vR 256 (xblk B at') 17 = blkN B at' := by
  have h3 : blkW B.length at' ≤ 16 := Nat.min_le_left ..
  have key : ∀ m, vR 256 (xblk B at') m = if m ≤ blkW B.length at' then vR 256 (B.drop at') m else blkN B at' := by
    intro m
    induction m with
    | zero => rw [if_pos (by omega)]; rfl
    | succ m ih =>
      show vR 256 (xblk B at') m + (xblk B at').getD m 0 * 256 ^ m = _
      rw [ih, xblk_get]
      by_cases h : m < blkW B.length at'
      · rw [if_pos (by omega), if_pos h, if_pos (by omega)]
        show _ = vR 256 (B.drop at') m + (B.drop at').getD m 0 * 256 ^ m
        congr 2
        rw [List.getD_eq_getElem?_getD, List.getD_eq_getElem?_getD, List.getElem?_drop]
      · rw [if_neg h, if_neg (by omega : ¬ m + 1 ≤ _)]
        by_cases h2 : m = blkW B.length at'
        · rw [if_pos (by omega), if_pos h2, Nat.one_mul, h2]; rfl
        · rw [if_neg (by omega), if_neg h2]; omega
  rw [key 17, if_neg (by omega)]
theorem blkN_lt {B : List Nat} (h : ∀ i, B.getD i 0 < 256) (at' : Nat) : blkN B at' < 680564733841876926926749214863536422912 := by
  have h3 : blkW B.length at' ≤ 16 := Nat.min_le_left ..
  have h4 : 256 ^ blkW B.length at' ≤ 256 ^ 16 := Nat.pow_le_pow_right (by decide) h3
  have h5 := vR_lt 256 (L := B.drop at') (fun i => by rw [List.getD_eq_getElem?_getD, List.getElem?_drop, ← List.getD_eq_getElem?_getD]; exact h _) (blkW B.length at')
  have e : (256 : Nat) ^ 16 = 340282366920938463463374607431768211456 := by decide
  unfold blkN
  omega
/-- One round of the program: limbs added, multiplied. -/
theorem round_val {h r : List Nat} {B K : List Nat} (hB : ∀ i, B.getD i 0 < 256) (hK : ∀ i, K.getD i 0 < 256) (hh : LB 67108874 h) (hr : valL r = rkN K) (hrb : LB 67108863 r) {j : Nat} (hj : 16 * j < B.length) (hv : valL h % P130 = macc (rkN K) B j) :
    valL (timesL (accS h (limbsN (xblk B (16 * j))) 5) r) % P130 = macc (rkN K) B (j + 1) ∧ LB 67108874 (timesL (accS h (limbsN (xblk B (16 * j))) 5) r) ∧ LB 268435456 (accS h (limbsN (xblk B (16 * j))) 5) := by
  obtain ⟨h1, h2⟩ := limbsN_val (xblk_lt hB (16 * j)) (xblk_len hj) (by rw [xblk_val]; have := blkN_lt hB (16 * j); omega)
  have h3 : LB 268435456 (accS h (limbsN (xblk B (16 * j))) 5) := ⟨by rw [accS_len, hh.len], fun i => by
    rw [accS_get _ _ _ _ (by rw [hh.len]; omega)]
    have := hh.le i
    have := h2.le i
    split <;> omega⟩
  obtain ⟨h4, h5⟩ := timesL_val h3 hrb
  refine ⟨?_, h5, h3⟩
  have h6 : valL (accS h (limbsN (xblk B (16 * j))) 5) = valL h + blkN B (16 * j) := by
    rw [valL_vR, accS_val 67108864 h _ 5 hh.len 5 (Nat.le_refl _), ← valL_vR, ← valL_vR, h1, xblk_val]
  show _ = (macc (rkN K) B j + blkN B (16 * j)) * rkN K % P130
  rw [h4, h6, hr, Nat.mul_mod (valL h + _), Nat.add_mod (valL h), hv, Nat.mul_mod (macc (rkN K) B j + blkN B (16 * j)) (rkN K), Nat.add_mod (macc (rkN K) B j) (blkN B (16 * j)), Nat.mod_eq_of_lt (macc_lt _ _ _)]
/-! the reference's way: digits -/
def prow (h r p : List Nat) (i : Nat) : Nat → List Nat
  | 0 => p
  | j + 1 => (prow h r p i j).set (i + j) ((prow h r p i j).getD (i + j) 0 + h.getD i 0 * r.getD j 0)
def pall (h r : List Nat) : Nat → List Nat
  | 0 => List.replicate 34 0
  | i + 1 => prow h r (pall h r i) i 16
/-- Not longer, not greater. -/
structure DB (n M : Nat) (d : List Nat) : Prop where
  len : d.length = n
  le : ∀ i, d.getD i 0 ≤ M
theorem DB.put {n M N : Nat} {d : List Nat} (h : DB n M d) (hN : M ≤ N) (i v : Nat) (hv : v ≤ N) : DB n N (d.set i v) := ⟨by rw [List.length_set]; exact h.len, fun j => by
  rw [List.getD_eq_getElem?_getD, List.getElem?_set]
  split
  · split
    · exact hv
    · exact Nat.zero_le _
  · rw [← List.getD_eq_getElem?_getD]; exact Nat.le_trans (h.le j) hN⟩
theorem prow_b {h r : List Nat} (hh : ∀ i, h.getD i 0 ≤ 1000) (hr : ∀ i, r.getD i 0 ≤ 255) {p : List Nat} {c : Nat} (hp : DB 34 (c * 255000) p) (i : Nat) : ∀ j, DB 34 ((c + j) * 255000) (prow h r p i j)
  | 0 => hp
  | j + 1 => by
    have ih := prow_b hh hr hp i j
    have hm : h.getD i 0 * r.getD j 0 ≤ 1000 * 255 := Nat.mul_le_mul (hh i) (hr j)
    exact ih.put (by omega) _ _ (by have := ih.le (i + j); omega)
theorem pall_b {h r : List Nat} (hh : ∀ i, h.getD i 0 ≤ 1000) (hr : ∀ i, r.getD i 0 ≤ 255) : ∀ i, DB 34 (16 * i * 255000) (pall h r i)
  | 0 => ⟨by simp [pall], fun i => by
    show (List.replicate 34 0).getD i 0 ≤ _
    rw [List.getD_eq_getElem?_getD, List.getElem?_replicate]
    split <;> simp⟩
  | i + 1 => by
    have := prow_b hh hr (pall_b hh hr i) i 16
    rwa [show (16 * i + 16) * 255000 = 16 * (i + 1) * 255000 by omega] at this
theorem prow_val {h r p : List Nat} (hp : p.length = 34) {i : Nat} (hi : i < 17) (j : Nat) : j ≤ 16 → (prow h r p i j).length = 34 ∧ vR 256 (prow h r p i j) 34 = vR 256 p 34 + h.getD i 0 * 256 ^ i * vR 256 r j := by
  have hs : ∀ j, prow h r p i (j + 1) = (prow h r p i j).set (i + j) ((prow h r p i j).getD (i + j) 0 + h.getD i 0 * r.getD j 0) := fun _ => rfl
  have hv := vR_succ 256 r
  induction j with
  | zero =>
    intro _
    refine ⟨hp, ?_⟩
    rw [show vR 256 r 0 = 0 from rfl, Nat.mul_zero, Nat.add_zero]; rfl
  | succ j ih =>
    intro hj
    obtain ⟨h1, h2⟩ := ih (by omega)
    rw [hs, hv]
    refine ⟨by rw [List.length_set, h1], ?_⟩
    rw [vR_set 256 _ _ _ (by omega) 34 (by omega), h2, Nat.mul_add, Nat.pow_add, Nat.add_assoc, Nat.mul_mul_mul_comm]
theorem pall_val (h r : List Nat) (i : Nat) : i ≤ 17 → (pall h r i).length = 34 ∧ vR 256 (pall h r i) 34 = vR 256 h i * vR 256 r 16 := by
  have hs : ∀ i, pall h r (i + 1) = prow h r (pall h r i) i 16 := fun _ => rfl
  have hv := vR_succ 256 h
  have hz : vR 256 (pall h r 0) 34 = 0 := by
    have : ∀ n, vR 256 (List.replicate 34 0) n = 0 := by
      intro n
      induction n with
      | zero => rfl
      | succ n ih =>
        rw [vR_succ, ih, List.getD_eq_getElem?_getD, List.getElem?_replicate]
        split <;> simp
    exact this 34
  have hm := fun i (hi : i < 17) (hl : (pall h r i).length = 34) => prow_val (h := h) (r := r) hl hi 16 (Nat.le_refl _)
  generalize vR 256 r 16 = S at hm ⊢
  induction i with
  | zero =>
    intro _
    refine ⟨by simp [pall], ?_⟩
    rw [hz, show vR 256 h 0 = 0 from rfl, Nat.zero_mul]
  | succ i ih =>
    intro hi
    obtain ⟨h1, h2⟩ := ih (by omega)
    obtain ⟨h3, h4⟩ := hm i (by omega) h1
    rw [hs, hv]
    refine ⟨h3, ?_⟩
    rw [h4, h2, Nat.add_mul]
/-- The block added to the digits. -/
def addB (h B : List Nat) (at' : Nat) : List Nat := (accS h (B.drop at') (blkW B.length at')).set (blkW B.length at') ((accS h (B.drop at') (blkW B.length at')).getD (blkW B.length at') 0 + 1)
theorem addB_val {h B : List Nat} (hl : h.length = 17) (at' : Nat) : vR 256 (addB h B at') 17 = vR 256 h 17 + blkN B at' := by
  have h3 : blkW B.length at' ≤ 16 := Nat.min_le_left ..
  unfold addB blkN
  rw [vR_set 256 _ _ _ (by rw [accS_len]; omega) 17 (by omega), accS_val 256 h _ 17 hl _ (by omega)]
  omega
theorem addB_le {h B : List Nat} (hl : h.length = 17) (hh : ∀ i, h.getD i 0 < 256) (hB : ∀ i, B.getD i 0 < 256) (at' i : Nat) : (addB h B at').getD i 0 ≤ 1000 := by
  have h3 : blkW B.length at' ≤ 16 := Nat.min_le_left ..
  have hg : ∀ i, (accS h (B.drop at') (blkW B.length at')).getD i 0 ≤ 510 := fun i => by
    rw [accS_get _ _ _ _ (by omega)]
    have h1 := hh i
    have h2 : (B.drop at').getD i 0 < 256 := by rw [List.getD_eq_getElem?_getD, List.getElem?_drop, ← List.getD_eq_getElem?_getD]; exact hB _
    split <;> omega
  unfold addB
  rw [getD_set _ _ _ _ (by rw [accS_len]; omega)]
  have := hg i
  have := hg (blkW B.length at')
  split <;> omega
/-- One round of the reference. -/
theorem ref_val {B K : List Nat} {j : Nat} {h : List Nat} (hl : h.length = 17) (hv : h = digs 17 (macc (rkN K) B j)) : vR 256 (pall (addB h B (16 * j)) (clampL K) 17) 36 % P130 = macc (rkN K) B (j + 1) := by
  obtain ⟨h1, h2⟩ := pall_val (addB h B (16 * j)) (clampL K) 17 (Nat.le_refl _)
  rw [vR_more 256 _ 34 (by omega) 2, h2, addB_val hl]
  have h3 : vR 256 h 17 = macc (rkN K) B j := by
    rw [hv, vR_digs 17 _ 17 (Nat.le_refl _), Nat.mod_eq_of_lt]
    exact Nat.lt_of_lt_of_le (macc_lt _ _ _) (by decide)
  rw [h3]
  rfl
end Obol
