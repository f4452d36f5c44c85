import Derived.Test.YtiffendfojhapaaDoorWbl
/- Plain law: the digest. No program in sight. -/
namespace Obol

def firstL : List Nat := [1779033703, 3144134277, 1013904242, 2773480762, 1359893119, 2600822924, 528734635, 1541459225]
def rowsL : List (List Nat) := [
  [0, 1, 2, 3, 4, 5, 6, 7, 8, 9, 10, 11, 12, 13, 14, 15],
  [14, 10, 4, 8, 9, 15, 13, 6, 1, 12, 0, 2, 11, 7, 5, 3],
  [11, 8, 12, 0, 5, 2, 15, 13, 10, 14, 3, 6, 7, 1, 9, 4],
  [7, 9, 3, 1, 13, 12, 11, 14, 2, 6, 5, 10, 4, 0, 15, 8],
  [9, 0, 5, 7, 2, 4, 10, 15, 14, 1, 11, 12, 6, 8, 3, 13],
  [2, 12, 6, 10, 0, 11, 8, 3, 4, 13, 7, 5, 15, 14, 1, 9],
  [12, 5, 1, 15, 14, 13, 4, 10, 0, 7, 6, 3, 9, 2, 8, 11],
  [13, 11, 7, 14, 12, 1, 3, 9, 5, 0, 15, 4, 8, 6, 2, 10],
  [6, 15, 14, 9, 11, 3, 0, 8, 12, 2, 13, 7, 1, 4, 10, 5],
  [10, 2, 8, 4, 7, 6, 1, 5, 15, 11, 9, 14, 3, 12, 13, 0]]
def rowAt (i k : Nat) : Nat := (rowsL.getD i []).getD k 0
theorem rowAt_lt : ∀ i k : Nat, rowAt i k < 16 := by
  have h : ∀ l ∈ rowsL, ∀ x ∈ l, x < 16 := by decide +kernel
  intro i k
  unfold rowAt
  rw [List.getD_eq_getElem?_getD, List.getD_eq_getElem?_getD]
  cases hi : rowsL[i]? with
  | none => simp
  | some l =>
    simp only [Option.getD_some]
    cases hk : l[k]? with
    | none => simp
    | some x => exact h l (List.mem_of_getElem? hi) x (List.mem_of_getElem? hk)
def wordAt (b : List Nat) (o : Nat) : Nat := b.getD o 0 + 256 * b.getD (o + 1) 0 + 65536 * b.getD (o + 2) 0 + 16777216 * b.getD (o + 3) 0
def msgL (b : List Nat) (o : Nat) : List Nat := (List.range 16).map fun i => wordAt b (o + 4 * i)
def colMix (m : List Nat) (i k : Nat) (v : List Nat) : List Nat := mixL v k (4 + k) (8 + k) (12 + k) (m.getD (rowAt i (2 * k)) 0) (m.getD (rowAt i (2 * k + 1)) 0)
def diaMix (m : List Nat) (i k : Nat) (v : List Nat) : List Nat := mixL v k (4 + (k + 1) % 4) (8 + (k + 2) % 4) (12 + (k + 3) % 4) (m.getD (rowAt i (8 + 2 * k)) 0) (m.getD (rowAt i (9 + 2 * k)) 0)
def cols (m : List Nat) (i : Nat) : Nat → List Nat → List Nat
  | 0, v => v
  | k + 1, v => colMix m i k (cols m i k v)
def dias (m : List Nat) (i : Nat) : Nat → List Nat → List Nat
  | 0, v => v
  | k + 1, v => diaMix m i k (dias m i k v)
def rnds (m : List Nat) : Nat → List Nat → List Nat
  | 0, v => v
  | i + 1, v => dias m i 4 (cols m i 4 (rnds m i v))
def last14 (v : List Nat) (last : Bool) : List Nat := if last then v.set 14 (v.getD 14 0 ^^^ 4294967295) else v
def count12 (v : List Nat) (count : Nat) : List Nat := (v.set 12 (v.getD 12 0 ^^^ (count % 4294967296))).set 13 ((v.set 12 (v.getD 12 0 ^^^ (count % 4294967296))).getD 13 0 ^^^ (count / 4294967296 % 4294967296))
def startV (h : List Nat) (count : Nat) (last : Bool) : List Nat := last14 (count12 (h ++ firstL) count) last
def endV (h v : List Nat) : Nat → List Nat → List Nat
  | 0, l => l
  | i + 1, l => (endV h v i l).set i (h.getD i 0 ^^^ (v.getD i 0 ^^^ v.getD (8 + i) 0))
def pressL (h m : List Nat) (count : Nat) (last : Bool) : List Nat := endV h (rnds m 10 (startV h count last)) 8 h
def initH (p : List Nat) : List Nat := ((firstL.set 0 1795745351).set 6 (528734635 ^^^ wordAt p 0)).set 7 (1541459225 ^^^ wordAt p 4)
def stH (p b : List Nat) : Nat → List Nat
  | 0 => initH p
  | j + 1 => pressL (stH p b j) (msgL b (64 * j)) (min (64 * (j + 1)) b.length) (decide (b.length ≤ 64 * (j + 1)))
def nBlocks (len : Nat) : Nat := if len = 0 then 1 else (len + 63) / 64
def bytes4 (x : Nat) : List Nat := [x % 256, x / 256 % 256, x / 65536 % 256, x / 16777216 % 256]
def wordsB (l : List Nat) : List Nat := l.flatMap bytes4
def sumL (p b : List Nat) : List Nat := wordsB (stH p b (nBlocks b.length))

theorem sumL_abc : (sumL [] [97, 98, 99]).getD 0 0 = 80 ∧ (sumL [] [97, 98, 99]).getD 1 0 = 140 ∧ (sumL [] [97, 98, 99]).getD 31 0 = 130 := by decide +kernel

end Obol
