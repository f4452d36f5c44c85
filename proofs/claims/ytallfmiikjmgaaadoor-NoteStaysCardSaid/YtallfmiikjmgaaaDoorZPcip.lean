import Derived.Test.YtallfmiikjmgaaaDoorME
import Derived.Test.YtallfmiikjmgaaaDoorZWrstream
set_option linter.unusedVariables false
set_option linter.unusedSimpArgs false
/- Plain: a text and the stream; the mark of data and a sealed text. -/
namespace Obol
/-- The text, of which so many bytes are done. -/
def xorS (K N T : List Nat) : Nat → List Nat
  | 0 => T
  | j + 1 => (xorS K N T j).set j (T.getD j 0 ^^^ (blkL K N (1 + j / 64)).getD (j % 64) 0)
theorem xorS_len (K N T : List Nat) : ∀ j, (xorS K N T j).length = T.length
  | 0 => rfl
  | j + 1 => by rw [xorS, List.length_set, xorS_len K N T j]
theorem xorS_get (K N T : List Nat) : ∀ j i, j ≤ T.length → (xorS K N T j).getD i 0 = if i < j then T.getD i 0 ^^^ (blkL K N (1 + i / 64)).getD (i % 64) 0 else T.getD i 0
  | 0, i, _ => by rw [if_neg (by omega)]; rfl
  | j + 1, i, hj => by
    show ((xorS K N T j).set j _).getD i 0 = _
    rw [getD_set _ _ _ _ (by rw [xorS_len]; omega), xorS_get K N T j i (by omega)]
    by_cases h1 : j = i
    · subst h1; rw [if_pos rfl, if_pos (by omega)]
    · rw [if_neg h1]
      by_cases h2 : i < j
      · rw [if_pos h2, if_pos (by omega)]
      · rw [if_neg h2, if_neg (by omega)]
theorem strmS_get (K N T : List Nat) (n : Nat) : ∀ j i, j ≤ n → i < n → (strmS K N T n j).getD i 0 = if i < j then T.getD i 0 ^^^ (blkL K N (1 + i / 64)).getD (i % 64) 0 else 0
  | 0, i, _, hi => by
    rw [if_neg (by omega)]
    show (List.replicate n 0).getD i 0 = 0
    rw [List.getD_eq_getElem?_getD, List.getElem?_replicate, if_pos hi]; rfl
  | j + 1, i, hj, hi => by
    show ((strmS K N T n j).set j _).getD i 0 = _
    rw [getD_set _ _ _ _ (by rw [strmS_len]; omega), strmS_get K N T n j i (by omega) hi]
    by_cases h1 : j = i
    · subst h1; rw [if_pos rfl, if_pos (by omega)]
    · rw [if_neg h1]
      by_cases h2 : i < j
      · rw [if_pos h2, if_pos (by omega)]
      · rw [if_neg h2, if_neg (by omega)]
/-- A text xor the stream. -/
def strm (K N T : List Nat) : List Nat := xorS K N T T.length
theorem strm_len (K N T : List Nat) : (strm K N T).length = T.length := xorS_len _ _ _ _
theorem strm_get (K N T : List Nat) {i : Nat} (h : i < T.length) : (strm K N T).getD i 0 = T.getD i 0 ^^^ (blkL K N (1 + i / 64)).getD (i % 64) 0 := by
  unfold strm
  rw [xorS_get K N T _ i (Nat.le_refl _), if_pos h]
theorem strm_ref (K N T : List Nat) : strmS K N T T.length T.length = strm K N T := by
  refine ext_getD (by rw [strmS_len, strm_len]) fun i hi => ?_
  rw [strmS_len] at hi
  rw [strm_get K N T hi, strmS_get K N T _ _ i (Nat.le_refl _) hi, if_pos hi]
theorem xor_b {p q : Nat} (hp : p < 256) (hq : q < 256) : p ^^^ q < 256 := Nat.xor_lt_two_pow (n := 8) hp hq
theorem strm_lt (K N : List Nat) {T : List Nat} (h : ∀ i, T.getD i 0 < 256) (i : Nat) : (strm K N T).getD i 0 < 256 := by
  by_cases hi : i < T.length
  · rw [strm_get K N T hi]
    exact xor_b (h i) ((Go.Proofs.YtallfmiikjmgaaaDoor.blk_b8 K N (1 + i / 64)).lt _)
  · rw [getD_out (by rw [strm_len]; omega)]; decide
theorem strm_back (K N T : List Nat) : strm K N (strm K N T) = T := by
  refine ext_getD (by rw [strm_len, strm_len]) fun i hi => ?_
  rw [strm_len, strm_len] at hi
  rw [strm_get K N _ (by rw [strm_len]; exact hi), strm_get K N T hi, Nat.xor_assoc, Nat.xor_self, Nat.xor_zero]
theorem strm_inj (K N : List Nat) {T U : List Nat} (h : strm K N T = strm K N U) : T = U := by rw [← strm_back K N T, h, strm_back]
/-- The bytes that are marked. -/
def allB (D C : List Nat) : List Nat := fullL D ++ fullL C ++ lenS D.length 8 ++ lenS C.length 8
/-- The mark of data and a sealed text. -/
def bothL (K N D C : List Nat) : List Nat := markL ((blkL K N 0).take 32) (allB D C)
theorem bothL_len (K N D C : List Nat) : (bothL K N D C).length = 16 := markL_len _ _
theorem bothL_lt (K N D C : List Nat) (i : Nat) : (bothL K N D C).getD i 0 < 256 := markL_lt _ _ _
theorem lenS_get (n : Nat) : ∀ j i, j ≤ 8 → i < 8 → (lenS n j).getD i 0 = if i < j then n / 256 ^ i % 256 else 0
  | 0, i, _, hi => by
    rw [if_neg (by omega)]
    match i, hi with
    | 0, _ => rfl
    | 1, _ => rfl
    | 2, _ => rfl
    | 3, _ => rfl
    | 4, _ => rfl
    | 5, _ => rfl
    | 6, _ => rfl
    | 7, _ => rfl
  | j + 1, i, hj, hi => by
    show ((lenS n j).set j _).getD i 0 = _
    rw [getD_set _ _ _ _ (by rw [lenS_len]; omega), lenS_get n j i (by omega) hi]
    by_cases h1 : j = i
    · subst h1; rw [if_pos rfl, if_pos (by omega)]
    · rw [if_neg h1]
      by_cases h2 : i < j
      · rw [if_pos h2, if_pos (by omega)]
      · rw [if_neg h2, if_neg (by omega)]
theorem lenS_digs (n : Nat) : lenS n 8 = digs 8 n := by
  refine ext_getD (by rw [lenS_len, digs_len]) fun i hi => ?_
  rw [lenS_len] at hi
  rw [lenS_get n 8 i (Nat.le_refl _) hi, if_pos hi, digs_get _ _ hi]
theorem lt_app {L M : List Nat} (hL : ∀ i, L.getD i 0 < 256) (hM : ∀ i, M.getD i 0 < 256) (i : Nat) : (L ++ M).getD i 0 < 256 := by
  rw [List.getD_eq_getElem?_getD]
  by_cases h : i < L.length
  · rw [List.getElem?_append_left h, ← List.getD_eq_getElem?_getD]; exact hL _
  · rw [List.getElem?_append_right (by omega), ← List.getD_eq_getElem?_getD]; exact hM _
theorem lt_zeros (n i : Nat) : (List.replicate n 0).getD i 0 < 256 := by
  rw [List.getD_eq_getElem?_getD, List.getElem?_replicate]
  split <;> decide
theorem lt_full {L : List Nat} (h : ∀ i, L.getD i 0 < 256) (i : Nat) : (fullL L).getD i 0 < 256 := lt_app h (lt_zeros _) i
theorem full_len (L : List Nat) : (fullL L).length = L.length + padN L.length := by unfold fullL; rw [List.length_append, List.length_replicate]
theorem allB_lt {D C : List Nat} (hD : ∀ i, D.getD i 0 < 256) (hC : ∀ i, C.getD i 0 < 256) (i : Nat) : (allB D C).getD i 0 < 256 :=
  lt_app (lt_app (lt_app (lt_full hD) (lt_full hC)) (by rw [lenS_digs]; exact digs_lt _ _)) (by rw [lenS_digs]; exact digs_lt _ _) i
theorem allB_len (D C : List Nat) : (allB D C).length = D.length + padN D.length + (C.length + padN C.length) + 16 := by
  unfold allB
  rw [List.length_append, List.length_append, List.length_append, full_len, full_len, lenS_len, lenS_len]
end Obol
