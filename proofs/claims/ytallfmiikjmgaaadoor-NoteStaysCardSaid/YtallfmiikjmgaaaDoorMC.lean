import Derived.Test.YtallfmiikjmgaaaDoorMB
import Derived.Deep.RegionWith
import Derived.BigRegion
import Derived.Deep.MidRow
import Derived.StillTailTactics
import Derived.Laws.BytesArg
import Derived.Laws.AppendOwnNone
import Derived.Test.YtallfmiikjmgaaaDoorMA
import Derived.ProofKit
import Derived.OpenShut
import Derived.ChangeSlices
import Derived.SizedLaws
import Derived.Carry
set_option linter.unusedVariables false
set_option linter.unusedSimpArgs false
/- Walks: package blake: words; the mixing of four words. -/
namespace Obol

def rotW (n x : Nat) : Nat := (x * 2 ^ (32 - n) % 4294967296) ||| (x / 2 ^ n)
def add3 (p q x : Nat) : Nat := (p + q + x) % 4294967296
def add2 (p q : Nat) : Nat := (p + q) % 4294967296
/-- Four words of sixteen, with two more: eight statements. -/
def sA (L : List Nat) (a b x : Nat) : List Nat := L.set a (add3 (L.getD a 0) (L.getD b 0) x)
def sC (L : List Nat) (c d : Nat) : List Nat := L.set c (add2 (L.getD c 0) (L.getD d 0))
def sX (L : List Nat) (n t s : Nat) : List Nat := L.set t (rotW n (L.getD t 0 ^^^ L.getD s 0))
def mixL (L : List Nat) (a b c d x y : Nat) : List Nat :=
  sX (sC (sX (sA (sX (sC (sX (sA L a b x) 16 d a) c d) 12 b c) a b y) 8 d a) c d) 7 b c

/-- So many words. -/
structure W32 (n : Nat) (L : List Nat) : Prop where
  len : L.length = n
  lt : ∀ i, L.getD i 0 < 4294967296
theorem W32.set {n : Nat} {L : List Nat} (h : W32 n L) (i z : Nat) (hz : z < 4294967296) : W32 n (L.set i z) := by
  refine ⟨by rw [List.length_set]; exact h.len, fun j => ?_⟩
  rw [List.getD_eq_getElem?_getD, List.getElem?_set]
  split
  · split
    · exact hz
    · decide
  · rw [← List.getD_eq_getElem?_getD]; exact h.lt j
theorem rotW_lt (n x : Nat) (hx : x < 4294967296) : rotW n x < 4294967296 := by
  unfold rotW
  have h1 : x * 2 ^ (32 - n) % 4294967296 < 2 ^ 32 := Nat.mod_lt _ (by decide)
  have h2 : x / 2 ^ n < 2 ^ 32 := Nat.lt_of_le_of_lt (Nat.div_le_self _ _) hx
  exact Nat.or_lt_two_pow h1 h2
theorem add3_lt (p q x : Nat) : add3 p q x < 4294967296 := Nat.mod_lt _ (by decide)
theorem add2_lt (p q : Nat) : add2 p q < 4294967296 := Nat.mod_lt _ (by decide)
theorem xor_lt {p q : Nat} (hp : p < 4294967296) (hq : q < 4294967296) : p ^^^ q < 4294967296 := Nat.xor_lt_two_pow (n := 32) hp hq

end Obol
namespace Go.Proofs.YtallfmiikjmgaaaDoor
open Go.RowKit

def u32s (L : List Nat) : Array Value := (L.map fun (n : Nat) => Value.int .u32 (n : Int)).toArray
theorem u32s_get {n : Nat} {L : List Nat} (h : Obol.W32 n L) (i : Nat) (hi : i < n) : (u32s L)[i]? = some (.int .u32 ((L.getD i 0 : Nat) : Int)) := by
  have hl : i < L.length := by rw [h.len]; exact hi
  unfold u32s
  rw [List.getElem?_toArray, List.getElem?_map, List.getElem?_eq_getElem hl, List.getD_eq_getElem?_getD, List.getElem?_eq_getElem hl]
  rfl
theorem rowSet {w : World} {k : Nat} {L : List Nat} {t : TypeId} (h : Row w k (u32s L) t) (i Z : Nat) {z : Int} (hz : z = (Z : Int)) : Row (w.setCell ⟨k, i, none⟩ (.int .u32 z)) k (u32s (L.set i Z)) t := by
  have e : (u32s L).setIfInBounds i (.int .u32 z) = u32s (L.set i Z) := by
    unfold u32s
    rw [List.setIfInBounds_toArray, List.map_set, hz]
  rw [← e]
  exact h.set i _
theorem add3_is {p q x : Int} {P Q : Nat} (hp : (P : Int) = p) (hq : (Q : Int) = q) (hx : 0 ≤ x) : (p + (q + x) % 4294967296) % 4294967296 = ((Obol.add3 P Q x.toNat : Nat) : Int) := by
  unfold Obol.add3; omega
theorem add2_is {p q : Int} {P Q : Nat} (hp : (P : Int) = p) (hq : (Q : Int) = q) : (p + q) % 4294967296 = ((Obol.add2 P Q : Nat) : Int) := by
  unfold Obol.add2; omega
theorem xor_eq {p q : Int} {P Q : Nat} (hp : (P : Int) = p) (hq : (Q : Int) = q) (h1 : P < 4294967296) (h2 : Q < 4294967296) : bits .xor .u32 p q = ((P ^^^ Q : Nat) : Int) := by
  subst hp hq; exact u32_xor_nat P Q h1 h2
theorem or_rot {x : Int} (n : Nat) (h0 : 0 ≤ x) (h1 : x ≤ 4294967295) : bits .or .u32 (x * 2 ^ (32 - n) % 4294967296) (x / 2 ^ n) = ((Obol.rotW n x.toNat : Nat) : Int) := by
  obtain ⟨X, rfl⟩ := Int.eq_ofNat_of_zero_le h0
  have e1 : (X : Int) * 2 ^ (32 - n) % 4294967296 = ((X * 2 ^ (32 - n) % 4294967296 : Nat) : Int) := by simp
  have e2 : (X : Int) / 2 ^ n = ((X / 2 ^ n : Nat) : Int) := by simp
  rw [e1, e2, u32_or_nat _ _ (Nat.mod_lt _ (by decide)) (Nat.lt_of_le_of_lt (Nat.div_le_self _ _) (by omega))]
  rfl
theorem rot16 (x : Int) (h0 : 0 ≤ x) (h1 : x ≤ 4294967295) (w : World) :
    Calls Tryd.prog 112 #[.int .u32 x, .int .i64 (-16)] w fun e w' => e = .returned (.int .u32 ((Obol.rotW 16 x.toNat : Nat) : Int)) ∧ w' = w := by
  have hs : bits .and .u64 (IntKind.u64.wrap (-16)) 31 = 16 := by decide +kernel
  have hr := Lib.hid (or_rot 16 h0 h1)
  go_enter Tryd.func112, Tryd.ntmps112
  go_wp2
  go_ret
  refine ⟨?_, rfl⟩
  rw [← hr.out]
  rfl
theorem rot12 (x : Int) (h0 : 0 ≤ x) (h1 : x ≤ 4294967295) (w : World) :
    Calls Tryd.prog 112 #[.int .u32 x, .int .i64 (-12)] w fun e w' => e = .returned (.int .u32 ((Obol.rotW 12 x.toNat : Nat) : Int)) ∧ w' = w := by
  have hs : bits .and .u64 (IntKind.u64.wrap (-12)) 31 = 20 := by decide +kernel
  have hr := Lib.hid (or_rot 12 h0 h1)
  go_enter Tryd.func112, Tryd.ntmps112
  go_wp2
  go_ret
  refine ⟨?_, rfl⟩
  rw [← hr.out]
  rfl
theorem rot8 (x : Int) (h0 : 0 ≤ x) (h1 : x ≤ 4294967295) (w : World) :
    Calls Tryd.prog 112 #[.int .u32 x, .int .i64 (-8)] w fun e w' => e = .returned (.int .u32 ((Obol.rotW 8 x.toNat : Nat) : Int)) ∧ w' = w := by
  have hs : bits .and .u64 (IntKind.u64.wrap (-8)) 31 = 24 := by decide +kernel
  have hr := Lib.hid (or_rot 8 h0 h1)
  go_enter Tryd.func112, Tryd.ntmps112
  go_wp2
  go_ret
  refine ⟨?_, rfl⟩
  rw [← hr.out]
  rfl
theorem rot7 (x : Int) (h0 : 0 ≤ x) (h1 : x ≤ 4294967295) (w : World) :
    Calls Tryd.prog 112 #[.int .u32 x, .int .i64 (-7)] w fun e w' => e = .returned (.int .u32 ((Obol.rotW 7 x.toNat : Nat) : Int)) ∧ w' = w := by
  have hs : bits .and .u64 (IntKind.u64.wrap (-7)) 31 = 25 := by decide +kernel
  have hr := Lib.hid (or_rot 7 h0 h1)
  go_enter Tryd.func112, Tryd.ntmps112
  go_wp2
  go_ret
  refine ⟨?_, rfl⟩
  rw [← hr.out]
  rfl

end Go.Proofs.YtallfmiikjmgaaaDoor
/- Plain law: the digest. No program in sight. -/
namespace Obol

def firstL : List Nat := [1779033703, 3144134277, 1013904242, 2773480762, 1359893119, 2600822924, 528734635, 1541459225]
def rowsL : List (List Nat) := [
  [0, 1, 2, 3, 4, 5, 6, 7, 8, 9, 10, 11, 12, 13, 14, 15],
  [14, 10, 4, 8, 9, 15, 13, 6, 1, 12, 0, 2, 11, 7, 5, 3],
  [11, 8, 12, 0, 5, 2, 15, 13, 10, 14, 3, 6, 7, 1, 9, 4],
  [7, 9, 3, 1, 13, 12, 11, 14, 2, 6, 5, 10, 4, 0, 15, 8],
  [9, 0, 5, 7, 2, 4, 10, 15, 14, 1, 11, 12, 6, 8, 3, 13],
  [2, 12, 6, 10, 0, 11, 8, 3, 4, 13, 7, 5, 15, 14, 1, 9],
  [12, 5, 1, 15, 14, 13, 4, 10, 0, 7, 6, 3, 9, 2, 8, 11],
  [13, 11, 7, 14, 12, 1, 3, 9, 5, 0, 15, 4, 8, 6, 2, 10],
  [6, 15, 14, 9, 11, 3, 0, 8, 12, 2, 13, 7, 1, 4, 10, 5],
  [10, 2, 8, 4, 7, 6, 1, 5, 15, 11, 9, 14, 3, 12, 13, 0]]
def rowAt (i k : Nat) : Nat := (rowsL.getD i []).getD k 0
theorem rowAt_lt : ∀ i k : Nat, rowAt i k < 16 := by
  have h : ∀ l ∈ rowsL, ∀ x ∈ l, x < 16 := by decide +kernel
  intro i k
  unfold rowAt
  rw [List.getD_eq_getElem?_getD, List.getD_eq_getElem?_getD]
  cases hi : rowsL[i]? with
  | none => simp
  | some l =>
    simp only [Option.getD_some]
    cases hk : l[k]? with
    | none => simp
    | some x => exact h l (List.mem_of_getElem? hi) x (List.mem_of_getElem? hk)
def wordAt (b : List Nat) (o : Nat) : Nat := b.getD o 0 + 256 * b.getD (o + 1) 0 + 65536 * b.getD (o + 2) 0 + 16777216 * b.getD (o + 3) 0
def msgL (b : List Nat) (o : Nat) : List Nat := (List.range 16).map fun i => wordAt b (o + 4 * i)
def colMix (m : List Nat) (i k : Nat) (v : List Nat) : List Nat := mixL v k (4 + k) (8 + k) (12 + k) (m.getD (rowAt i (2 * k)) 0) (m.getD (rowAt i (2 * k + 1)) 0)
def diaMix (m : List Nat) (i k : Nat) (v : List Nat) : List Nat := mixL v k (4 + (k + 1) % 4) (8 + (k + 2) % 4) (12 + (k + 3) % 4) (m.getD (rowAt i (8 + 2 * k)) 0) (m.getD (rowAt i (9 + 2 * k)) 0)
def cols (m : List Nat) (i : Nat) : Nat → List Nat → List Nat
  | 0, v => v
  | k + 1, v => colMix m i k (cols m i k v)
def dias (m : List Nat) (i : Nat) : Nat → List Nat → List Nat
  | 0, v => v
  | k + 1, v => diaMix m i k (dias m i k v)
def rnds (m : List Nat) : Nat → List Nat → List Nat
  | 0, v => v
  | i + 1, v => dias m i 4 (cols m i 4 (rnds m i v))
def last14 (v : List Nat) (last : Bool) : List Nat := if last then v.set 14 (v.getD 14 0 ^^^ 4294967295) else v
def count12 (v : List Nat) (count : Nat) : List Nat := (v.set 12 (v.getD 12 0 ^^^ (count % 4294967296))).set 13 ((v.set 12 (v.getD 12 0 ^^^ (count % 4294967296))).getD 13 0 ^^^ (count / 4294967296 % 4294967296))
def startV (h : List Nat) (count : Nat) (last : Bool) : List Nat := last14 (count12 (h ++ firstL) count) last
def endV (h v : List Nat) : Nat → List Nat → List Nat
  | 0, l => l
  | i + 1, l => (endV h v i l).set i (h.getD i 0 ^^^ (v.getD i 0 ^^^ v.getD (8 + i) 0))
def pressL (h m : List Nat) (count : Nat) (last : Bool) : List Nat := endV h (rnds m 10 (startV h count last)) 8 h
def initH (p : List Nat) : List Nat := ((firstL.set 0 1795745351).set 6 (528734635 ^^^ wordAt p 0)).set 7 (1541459225 ^^^ wordAt p 4)
def stH (p b : List Nat) : Nat → List Nat
  | 0 => initH p
  | j + 1 => pressL (stH p b j) (msgL b (64 * j)) (min (64 * (j + 1)) b.length) (decide (b.length ≤ 64 * (j + 1)))
def nBlocks (len : Nat) : Nat := if len = 0 then 1 else (len + 63) / 64
def bytes4 (x : Nat) : List Nat := [x % 256, x / 256 % 256, x / 65536 % 256, x / 16777216 % 256]
def wordsB (l : List Nat) : List Nat := l.flatMap bytes4
def sumL (p b : List Nat) : List Nat := wordsB (stH p b (nBlocks b.length))

theorem sumL_abc : (sumL [] [97, 98, 99]).getD 0 0 = 80 ∧ (sumL [] [97, 98, 99]).getD 1 0 = 140 ∧ (sumL [] [97, 98, 99]).getD 31 0 = 130 := by decide +kernel

end Obol
/- Bytes in memory. -/
namespace Obol
theorem or_low (a c : Nat) (h : c < 256) : a * 256 ||| c = a * 256 + c := by
  have := Nat.two_pow_add_eq_or_of_lt (i := 8) (b := c) (by omega) a
  rw [show (2 : Nat) ^ 8 = 256 from rfl] at this
  rw [Nat.mul_comm a 256, ← this]
end Obol
namespace Go.Proofs.YtallfmiikjmgaaaDoor
open Go.RowKit

/-- So many bytes. -/
structure B8 (n : Nat) (L : List Nat) : Prop where
  len : L.length = n
  lt : ∀ i, L.getD i 0 < 256
theorem B8.of {L : List Nat} (h : ∀ x ∈ L, x < 256) : B8 L.length L := ⟨rfl, fun i => by
  rw [List.getD_eq_getElem?_getD]
  cases h' : L[i]? with
  | none => exact Nat.zero_lt_of_lt (show 0 < 256 by decide)
  | some x => exact h x (List.mem_of_getElem? h')⟩
theorem B8.all {n : Nat} {L : List Nat} (h : B8 n L) : ∀ x ∈ L, x < 256 := fun x hx => by
  obtain ⟨i, hi, rfl⟩ := List.getElem_of_mem hx
  have := h.lt i
  rwa [List.getD_eq_getElem?_getD, List.getElem?_eq_getElem hi] at this

/-- The cells from o on are these bytes. -/
def BL (w : World) (b o : Nat) (L : List Nat) : Prop := ∀ i, i < L.length → w.cell? ⟨b, o + i, none⟩ = some (.int .u8 ((L.getD i 0 : Nat) : Int))
theorem BL.lt {w : World} {b o : Nat} {L : List Nat} (h : BL w b o L) (h0 : 0 < L.length) : b < w.heap.size := World.block_lt_of_cell? w ⟨b, o + 0, none⟩ (h 0 h0)
theorem BL.below {B : Nat} {w w' : World} {b o : Nat} {L : List Nat} (h : BL w b o L) (hb : Below B w w') (hB : b < B) : BL w' b o L := fun i hi => (hb.cell (p := ⟨b, o + i, none⟩) hB).trans (h i hi)
theorem BL.at {w : World} {b o : Nat} {L : List Nat} {n : Nat} (h : BL w b o L) (H : B8 n L) {i : Int} (h0 : 0 ≤ i) (h1 : i < n) :
    ∃ v : Int, w.cell? ⟨b, o + i.toNat, none⟩ = some (.int .u8 v) ∧ v = ((L.getD i.toNat 0 : Nat) : Int) ∧ 0 ≤ v ∧ v ≤ 255 :=
  ⟨_, h i.toNat (by rw [H.len]; omega), rfl, by omega, by have := H.lt i.toNat; omega⟩

theorem or_byte {n c : Int} (h0 : 0 ≤ n) (h1 : n < 72057594037927936) (c0 : 0 ≤ c) (c1 : c ≤ 255) : bits .or .u64 (n * 256) c = 256 * n + c := by
  obtain ⟨N, rfl⟩ := Int.eq_ofNat_of_zero_le h0
  obtain ⟨C, rfl⟩ := Int.eq_ofNat_of_zero_le c0
  have e : ((N : Int) * 256) = ((N * 256 : Nat) : Int) := by omega
  rw [e, u64_or_nat _ _ (by omega) (by omega), Obol.or_low _ _ (by omega)]
  omega
theorem and_63 {n : Int} (h0 : 0 ≤ n) (h1 : n ≤ 18446744073709551615) : bits .and .u64 n 9223372036854775807 = n % 9223372036854775808 := by
  obtain ⟨N, rfl⟩ := Int.eq_ofNat_of_zero_le h0
  have e : (9223372036854775807 : Int) = ((2 ^ 63 - 1 : Nat) : Int) := by decide
  rw [e, u64_and_nat _ _ (by omega) (by decide), Nat.and_two_pow_sub_one_eq_mod]
  omega
theorem and_1 {n : Int} (h0 : 0 ≤ n) (h1 : n ≤ 18446744073709551615) : bits .and .u64 n 1 = n % 2 := by
  obtain ⟨N, rfl⟩ := Int.eq_ofNat_of_zero_le h0
  have e : (1 : Int) = ((2 ^ 1 - 1 : Nat) : Int) := by decide
  rw [e, u64_and_nat _ _ (by omega) (by decide), Nat.and_two_pow_sub_one_eq_mod]
  omega

end Go.Proofs.YtallfmiikjmgaaaDoor
/- Whole blocks that are arrays: loaded and stored in one piece. -/
namespace Go.Proofs.YtallfmiikjmgaaaDoor
open Go.RowKit

theorem Row.range {w : World} {b : Nat} {cs : Array Value} {t : TypeId} (h : Row w b cs t) : w.rangeAt b 0 cs.toList := fun j v hj => by
  rw [Nat.zero_add]
  exact h.cell j (by simpa using hj)
theorem Row.there {w : World} {b : Nat} {cs : Array Value} {t : TypeId} (h : Row w b cs t) : w.there b 0 cs.size := fun j hj => by
  rw [Nat.zero_add, h.cell j (v := cs[j]) (by simp [hj])]
  exact ⟨rfl, h.free j⟩
theorem Row.setMany {b : Nat} {t : TypeId} : ∀ (vs : List Value) (o : Nat) (w : World) (cs : Array Value), Row w b cs t → o + vs.length ≤ cs.size →
    Row (w.setCells b o vs) b (cs.toList.take o ++ vs ++ cs.toList.drop (o + vs.length)).toArray t
  | [], o, w, cs, h, _ => by simpa [World.setCells] using h
  | v :: r, o, w, cs, h, hs => by
    have hs' : o + 1 + r.length ≤ (cs.setIfInBounds o v).size := by simp at hs ⊢; omega
    have ih := Row.setMany r (o + 1) _ _ (h.set o v) hs'
    have ho : o < cs.size := by simp at hs; omega
    rw [World.setCells]
    have e : (cs.setIfInBounds o v).toList.take (o + 1) ++ r ++ (cs.setIfInBounds o v).toList.drop (o + 1 + r.length) = cs.toList.take o ++ v :: r ++ cs.toList.drop (o + (v :: r).length) := by
      have h1 : (cs.toList.set o v).take (o + 1) = cs.toList.take o ++ [v] := by
        rw [List.take_add_one, List.take_set_of_le (Nat.le_refl o), List.getElem?_set_self (by simpa using ho)]
        rfl
      have h2 : (cs.toList.set o v).drop (o + 1 + r.length) = cs.toList.drop (o + (v :: r).length) := by
        rw [List.drop_set_of_lt (by omega), List.length_cons, show o + 1 + r.length = o + (r.length + 1) by omega]
      rw [Array.toList_setIfInBounds, h1, h2]
      simp
    rw [← e]
    exact ih
theorem Row.store {w : World} {b : Nat} {cs : Array Value} {t : TypeId} (h : Row w b cs t) (cs' : Array Value) (hs : cs'.size = cs.size) : Row (w.setCells b 0 cs'.toList) b cs' t := by
  have := Row.setMany cs'.toList 0 w cs h (by simp [hs])
  have e : cs.toList.take 0 ++ cs'.toList ++ cs.toList.drop (0 + cs'.toList.length) = cs'.toList := by
    rw [List.take_zero, List.nil_append, List.drop_eq_nil_of_le (by simp [hs]), List.append_nil]
  rw [e] at this
  exact this

theorem bSetMany {B : Nat} {a : World} {b : Nat} (hb : B ≤ b) : ∀ (vs : List Value) (o : Nat) (w : World), Below B a w → Below B a (w.setCells b o vs)
  | [], _, _, h => h
  | v :: r, o, w, h => bSetMany hb r (o + 1) _ (bSet h hb)

/-- A result that is an array in a block of its own. -/
theorem results_row {P : Program} {fn : Func} {p : Tmp} {t : TypeId} (h : fn.results = #[.cell p t]) (tmps : Array Value) {w : World} {b : Nat} {cs : Array Value} {d : TypeDesc} (ht : tmps.getD p undef = .pointer (some ⟨b, 0, none⟩))
    (hR : Row w b cs t) (hu : P.underlying t = some d) (hd : d.isRow = true) (hi : (P.info? t).map (·.size) = some cs.size) : (results fn tmps).run P w = .ok (.agg cs) w := by
  have hl := run_loadVar_mid (P := P) w b 0 t cs.toList d hR.range hu hd (by rw [hi]; simp)
  rw [Array.toArray_toList] at hl
  have ht' : tmps[p]?.getD undef = .pointer (some ⟨b, 0, none⟩) := by simpa using ht
  simp [results, h, ht', asAddr, hl]

end Go.Proofs.YtallfmiikjmgaaaDoor
/- Walks: package blake: a word of four bytes; the words of the beginning. -/
namespace Go.Proofs.YtallfmiikjmgaaaDoor
open Go.RowKit

theorem or_at (k : Nat) (hk : k ≤ 24) {p c : Int} (p0 : 0 ≤ p) (p1 : p < 2 ^ k) (c0 : 0 ≤ c) (c1 : c ≤ 255) : bits .or .u32 p (c * 2 ^ k) = p + c * 2 ^ k := by
  obtain ⟨P, rfl⟩ := Int.eq_ofNat_of_zero_le p0
  obtain ⟨C, rfl⟩ := Int.eq_ofNat_of_zero_le c0
  have hP : P < 2 ^ k := by
    have e : ((2 ^ k : Nat) : Int) = 2 ^ k := by rw [Int.natCast_pow]; rfl
    omega
  have hk2 : 2 ^ k ≤ 2 ^ 24 := Nat.pow_le_pow_right (by decide) hk
  have hC : C * 2 ^ k ≤ 255 * 2 ^ 24 := Nat.mul_le_mul (by omega) hk2
  have e2 : ((C : Int) * 2 ^ k) = ((C * 2 ^ k : Nat) : Int) := by rw [Int.natCast_mul, Int.natCast_pow]; rfl
  have h := Nat.two_pow_add_eq_or_of_lt hP C
  rw [e2, u32_or_nat _ _ (by omega) (by omega), Nat.or_comm, Nat.mul_comm C, ← h]
  omega

theorem bWord (b a len cap : Nat) (hl : 4 ≤ len) (hl2 : len ≤ 9223372036854775807) (v0 v1 v2 v3 : Int) (h0 : 0 ≤ v0) (g0 : v0 ≤ 255) (h1 : 0 ≤ v1) (g1 : v1 ≤ 255) (h2 : 0 ≤ v2) (g2 : v2 ≤ 255) (h3 : 0 ≤ v3) (g3 : v3 ≤ 255) (w : World)
    (c0 : w.cell? ⟨b, a, none⟩ = some (.int .u8 v0)) (c1 : w.cell? ⟨b, a + 1, none⟩ = some (.int .u8 v1)) (c2 : w.cell? ⟨b, a + 2, none⟩ = some (.int .u8 v2)) (c3 : w.cell? ⟨b, a + 3, none⟩ = some (.int .u8 v3)) :
    Calls Tryd.prog 89 #[.slice (some ⟨b, a, none⟩) len cap] w fun e w' => e = .returned (.int .u32 (v0 + v1 * 256 + v2 * 65536 + v3 * 16777216)) ∧ ∃ n, w' = w.drewN n := by
  have e1 : bits .or .u32 v0 (v1 * 256) = v0 + v1 * 256 := or_at 8 (by decide) h0 (by omega) h1 g1
  have e2 : bits .or .u32 (v0 + v1 * 256) (v2 * 65536) = v0 + v1 * 256 + v2 * 65536 := or_at 16 (by decide) (by omega) (by omega) h2 g2
  have e3 : bits .or .u32 (v0 + v1 * 256 + v2 * 65536) (v3 * 16777216) = v0 + v1 * 256 + v2 * 65536 + v3 * 16777216 := or_at 24 (by decide) (by omega) (by omega) h3 g3
  go_enter Tryd.func89, Tryd.ntmps89
  go_wp2_with fail
  go_quiet (fail)
  go_wp2
  go_ret
  exact ⟨rfl, _, rfl⟩

/-- The same at bytes that are told as a list. -/
theorem bWordAt (b q o a len cap : Nat) (B : List Nat) (n : Nat) (H : B8 n B) (ha : a = q + o) (hl : 4 ≤ len) (hl2 : len ≤ 9223372036854775807) (ho : o + 3 < n) (w : World) (hc : BL w b q B) :
    Calls Tryd.prog 89 #[.slice (some ⟨b, a, none⟩) len cap] w fun e w' => e = .returned (.int .u32 ((Obol.wordAt B o : Nat) : Int)) ∧ ∃ n, w' = w.drewN n := by
  subst ha
  have g : ∀ j, B.getD j 0 ≤ 255 := fun j => by have := H.lt j; omega
  have h := bWord b (q + o) len cap hl hl2 ((B.getD o 0 : Nat) : Int) ((B.getD (o + 1) 0 : Nat) : Int) ((B.getD (o + 2) 0 : Nat) : Int) ((B.getD (o + 3) 0 : Nat) : Int)
    (by omega) (by have := g o; omega) (by omega) (by have := g (o + 1); omega) (by omega) (by have := g (o + 2); omega) (by omega) (by have := g (o + 3); omega) w
    (hc o (by rw [H.len]; omega)) (hc (o + 1) (by rw [H.len]; omega)) (hc (o + 2) (by rw [H.len]; omega)) (hc (o + 3) (by rw [H.len]; omega))
  refine h.mono ?_
  rintro e w' ⟨rfl, k⟩
  refine ⟨?_, k⟩
  congr 2
  unfold Obol.wordAt
  omega

theorem bFirst (w : World) :
    Calls Tryd.prog 88 #[] w fun e w' => e = .returned (.agg (u32s Obol.firstL)) ∧ Below w.heap.size w w' := by
  go_enter Tryd.func88, Tryd.ntmps88
  go_wp2_with fail
  refine bodyPost_ret (v := .agg (u32s Obol.firstL)) (results_row rfl _ rfl (Row.new w (u32s Obol.firstL) 92) Tryd.underlying92 rfl (by kernel_rfl)) rfl ⟨rfl, ?_⟩
  exact bAlloc (Below.refl _ _) _

end Go.Proofs.YtallfmiikjmgaaaDoor
/- Walks: package blake: the mixing of four words. -/
namespace Go.Proofs.YtallfmiikjmgaaaDoor
open Go.RowKit

theorem word_at {n : Nat} {L : List Nat} (h : Obol.W32 n L) {i : Int} (_h0 : 0 ≤ i) (_h1 : i < n) : ∃ v : Int, ((L.getD i.toNat 0 : Nat) : Int) = v ∧ 0 ≤ v ∧ v ≤ 4294967295 :=
  ⟨_, rfl, by omega, by have := h.lt i.toNat; omega⟩
theorem u32s_at {n : Nat} {L : List Nat} (h : Obol.W32 n L) {i : Int} (h0 : 0 ≤ i) (h1 : i < n) : (u32s L)[i.toNat]? = some (.int .u32 ((L.getD i.toNat 0 : Nat) : Int)) := u32s_get h _ (by omega)

set_option maxRecDepth 8000 in
set_option maxHeartbeats 2000000 in
theorem bMix (k : Nat) (a b c d : Int) (ha0 : 0 ≤ a) (hb0 : 0 ≤ b) (hc0 : 0 ≤ c) (hd0 : 0 ≤ d) (ha1 : a < 16) (hb1 : b < 16) (hc1 : c < 16) (hd1 : d < 16)
    (x y : Int) (hx : 0 ≤ x) (hy : 0 ≤ y) (L0 : List Nat) (H0 : Obol.W32 16 L0) (w0 : World) (R0 : Row w0 k (u32s L0) 112) :
    Calls Tryd.prog 102 #[.pointer (some ⟨k, 0, none⟩), .int .i64 a, .int .i64 b, .int .i64 c, .int .i64 d, .int .u32 x, .int .u32 y] w0 fun e w' =>
      e = .returned (.tuple #[]) ∧ Row w' k (u32s (Obol.mixL L0 a.toNat b.toNat c.toNat d.toNat x.toNat y.toNat)) 112 ∧ Below k w0 w' := by
  have H := Lib.hid H0
  have R := Lib.hid R0
  have B : Hid (Below k w0 w0) := Lib.hid (Below.refl _ _)
  clear H0 R0
  go_enter Tryd.func102, Tryd.ntmps102
  go_wp2_with fail
  -- statement 1
  obtain ⟨va, ea, la, ua⟩ := word_at H.out (i := a) ha0 (by omega)
  have ca : w0.cell? ⟨k, a.toNat, none⟩ = some (.int .u32 va) := R.out.cell a.toNat ((u32s_at H.out ha0 (by omega)).trans (by rw [ea]))
  obtain ⟨vb, eb, lb, ub⟩ := word_at H.out (i := b) hb0 (by omega)
  have cb : w0.cell? ⟨k, b.toNat, none⟩ = some (.int .u32 vb) := R.out.cell b.toNat ((u32s_at H.out hb0 (by omega)).trans (by rw [eb]))
  obtain ⟨z, hz⟩ : ∃ z : Int, (va + (vb + x) % 4294967296) % 4294967296 = z := ⟨_, rfl⟩
  have hZ : z = ((Obol.add3 (L0.getD a.toNat 0) (L0.getD b.toNat 0) x.toNat : Nat) : Int) := by rw [← hz]; exact add3_is ea eb hx
  have f := R.out.free a.toNat
  obtain ⟨L1, q1⟩ : ∃ l, l = Obol.sA L0 a.toNat b.toNat x.toNat := ⟨_, rfl⟩
  have R' : Hid (Row ((w0.setCell ⟨k, a.toNat, none⟩ (.int .u32 z)).drew) k (u32s L1) 112) := Lib.hid (by rw [q1]; exact (rowSet R.out a.toNat _ hZ).drew)
  have H' : Hid (Obol.W32 16 L1) := Lib.hid (by rw [q1]; exact H.out.set a.toNat _ (Obol.add3_lt _ _ _))
  have B' := Lib.hid (bDrew (bSet (u := .int .u32 z) (o := a.toNat) B.out (Nat.le_refl k)))
  have Q1 := Lib.hid q1
  clear hZ q1 R H B ea eb
  go_region
  go_wp2_with fail
  clear f hz ca la ua cb lb ub
  generalize (w0.setCell ⟨k, a.toNat, none⟩ (.int .u32 z)).drew = w1 at R' B' ⊢
  have R := R'; have H := H'; have B := B'; clear R' H' B'
  try clear z
  -- statement 2
  obtain ⟨vd, ed, ld, ud⟩ := word_at H.out (i := d) hd0 (by omega)
  have cd : w1.cell? ⟨k, d.toNat, none⟩ = some (.int .u32 vd) := R.out.cell d.toNat ((u32s_at H.out hd0 (by omega)).trans (by rw [ed]))
  obtain ⟨va, ea, la, ua⟩ := word_at H.out (i := a) ha0 (by omega)
  have ca : w1.cell? ⟨k, a.toNat, none⟩ = some (.int .u32 va) := R.out.cell a.toNat ((u32s_at H.out ha0 (by omega)).trans (by rw [ea]))
  have hq := xor_eq ed ea (H.out.lt _) (H.out.lt _)
  have hql := Obol.xor_lt (H.out.lt d.toNat) (H.out.lt a.toNat)
  obtain ⟨u, hu⟩ : ∃ u : Int, bits .xor .u32 vd va = u := ⟨_, rfl⟩
  rw [hu] at hq
  have cR := fun w => rot16 u (by omega) (by omega) w
  obtain ⟨z, hz⟩ : ∃ z : Int, ((Obol.rotW 16 u.toNat : Nat) : Int) = z := ⟨_, rfl⟩
  have hZ : z = ((Obol.rotW 16 (L1.getD d.toNat 0 ^^^ L1.getD a.toNat 0) : Nat) : Int) := by rw [← hz, hq, Int.toNat_natCast]
  rw [hz] at cR
  replace cR := Lib.hid cR
  clear hz hq
  have f := R.out.free d.toNat
  obtain ⟨L2, q2⟩ : ∃ l, l = Obol.sX L1 16 d.toNat a.toNat := ⟨_, rfl⟩
  have R' : Hid (Row ((w1.setCell ⟨k, d.toNat, none⟩ (.int .u32 z)).drew) k (u32s L2) 112) := Lib.hid (by rw [q2]; exact (rowSet R.out d.toNat _ hZ).drew)
  have H' : Hid (Obol.W32 16 L2) := Lib.hid (by rw [q2]; exact H.out.set d.toNat _ (Obol.rotW_lt _ _ hql))
  have B' := Lib.hid (bDrew (bSet (u := .int .u32 z) (o := d.toNat) B.out (Nat.le_refl k)))
  have Q2 := Lib.hid q2
  clear hZ q2 R H B ed ea hql
  refine wp_region_still_tail 16 (by kernel_rfl) (by kernel_rfl) ?_
  simp only [List.take_succ_cons, List.take_zero, List.drop_succ_cons, List.drop_zero]
  repeat still_step
  still_call (cR.out _)
  repeat still_step
  refine wpStill_nil ?_
  change wpList _ _ _ _ _ w1.drew
  go_wp2_with fail
  clear f cR hu cd ld ud ca la ua
  generalize (w1.setCell ⟨k, d.toNat, none⟩ (.int .u32 z)).drew = w2 at R' B' ⊢
  have R := R'; have H := H'; have B := B'; clear R' H' B'
  try clear z
  -- statement 3
  obtain ⟨vc, ec, lc, uc⟩ := word_at H.out (i := c) hc0 (by omega)
  have cc : w2.cell? ⟨k, c.toNat, none⟩ = some (.int .u32 vc) := R.out.cell c.toNat ((u32s_at H.out hc0 (by omega)).trans (by rw [ec]))
  obtain ⟨vd, ed, ld, ud⟩ := word_at H.out (i := d) hd0 (by omega)
  have cd : w2.cell? ⟨k, d.toNat, none⟩ = some (.int .u32 vd) := R.out.cell d.toNat ((u32s_at H.out hd0 (by omega)).trans (by rw [ed]))
  obtain ⟨z, hz⟩ : ∃ z : Int, (vc + vd) % 4294967296 = z := ⟨_, rfl⟩
  have hZ : z = ((Obol.add2 (L2.getD c.toNat 0) (L2.getD d.toNat 0) : Nat) : Int) := by rw [← hz]; exact add2_is ec ed
  have f := R.out.free c.toNat
  obtain ⟨L3, q3⟩ : ∃ l, l = Obol.sC L2 c.toNat d.toNat := ⟨_, rfl⟩
  have R' : Hid (Row ((w2.setCell ⟨k, c.toNat, none⟩ (.int .u32 z)).drew) k (u32s L3) 112) := Lib.hid (by rw [q3]; exact (rowSet R.out c.toNat _ hZ).drew)
  have H' : Hid (Obol.W32 16 L3) := Lib.hid (by rw [q3]; exact H.out.set c.toNat _ (Obol.add2_lt _ _))
  have B' := Lib.hid (bDrew (bSet (u := .int .u32 z) (o := c.toNat) B.out (Nat.le_refl k)))
  have Q3 := Lib.hid q3
  clear hZ q3 R H B ec ed
  go_region
  go_wp2_with fail
  clear f hz cc lc uc cd ld ud
  generalize (w2.setCell ⟨k, c.toNat, none⟩ (.int .u32 z)).drew = w3 at R' B' ⊢
  have R := R'; have H := H'; have B := B'; clear R' H' B'
  try clear z
  -- statement 4
  obtain ⟨vb, eb, lb, ub⟩ := word_at H.out (i := b) hb0 (by omega)
  have cb : w3.cell? ⟨k, b.toNat, none⟩ = some (.int .u32 vb) := R.out.cell b.toNat ((u32s_at H.out hb0 (by omega)).trans (by rw [eb]))
  obtain ⟨vc, ec, lc, uc⟩ := word_at H.out (i := c) hc0 (by omega)
  have cc : w3.cell? ⟨k, c.toNat, none⟩ = some (.int .u32 vc) := R.out.cell c.toNat ((u32s_at H.out hc0 (by omega)).trans (by rw [ec]))
  have hq := xor_eq eb ec (H.out.lt _) (H.out.lt _)
  have hql := Obol.xor_lt (H.out.lt b.toNat) (H.out.lt c.toNat)
  obtain ⟨u, hu⟩ : ∃ u : Int, bits .xor .u32 vb vc = u := ⟨_, rfl⟩
  rw [hu] at hq
  have cR := fun w => rot12 u (by omega) (by omega) w
  obtain ⟨z, hz⟩ : ∃ z : Int, ((Obol.rotW 12 u.toNat : Nat) : Int) = z := ⟨_, rfl⟩
  have hZ : z = ((Obol.rotW 12 (L3.getD b.toNat 0 ^^^ L3.getD c.toNat 0) : Nat) : Int) := by rw [← hz, hq, Int.toNat_natCast]
  rw [hz] at cR
  replace cR := Lib.hid cR
  clear hz hq
  have f := R.out.free b.toNat
  obtain ⟨L4, q4⟩ : ∃ l, l = Obol.sX L3 12 b.toNat c.toNat := ⟨_, rfl⟩
  have R' : Hid (Row ((w3.setCell ⟨k, b.toNat, none⟩ (.int .u32 z)).drew) k (u32s L4) 112) := Lib.hid (by rw [q4]; exact (rowSet R.out b.toNat _ hZ).drew)
  have H' : Hid (Obol.W32 16 L4) := Lib.hid (by rw [q4]; exact H.out.set b.toNat _ (Obol.rotW_lt _ _ hql))
  have B' := Lib.hid (bDrew (bSet (u := .int .u32 z) (o := b.toNat) B.out (Nat.le_refl k)))
  have Q4 := Lib.hid q4
  clear hZ q4 R H B eb ec hql
  refine wp_region_still_tail 16 (by kernel_rfl) (by kernel_rfl) ?_
  simp only [List.take_succ_cons, List.take_zero, List.drop_succ_cons, List.drop_zero]
  repeat still_step
  still_call (cR.out _)
  repeat still_step
  refine wpStill_nil ?_
  change wpList _ _ _ _ _ w3.drew
  go_wp2_with fail
  clear f cR hu cb lb ub cc lc uc
  generalize (w3.setCell ⟨k, b.toNat, none⟩ (.int .u32 z)).drew = w4 at R' B' ⊢
  have R := R'; have H := H'; have B := B'; clear R' H' B'
  try clear z
  -- statement 5
  obtain ⟨va, ea, la, ua⟩ := word_at H.out (i := a) ha0 (by omega)
  have ca : w4.cell? ⟨k, a.toNat, none⟩ = some (.int .u32 va) := R.out.cell a.toNat ((u32s_at H.out ha0 (by omega)).trans (by rw [ea]))
  obtain ⟨vb, eb, lb, ub⟩ := word_at H.out (i := b) hb0 (by omega)
  have cb : w4.cell? ⟨k, b.toNat, none⟩ = some (.int .u32 vb) := R.out.cell b.toNat ((u32s_at H.out hb0 (by omega)).trans (by rw [eb]))
  obtain ⟨z, hz⟩ : ∃ z : Int, (va + (vb + y) % 4294967296) % 4294967296 = z := ⟨_, rfl⟩
  have hZ : z = ((Obol.add3 (L4.getD a.toNat 0) (L4.getD b.toNat 0) y.toNat : Nat) : Int) := by rw [← hz]; exact add3_is ea eb hy
  have f := R.out.free a.toNat
  obtain ⟨L5, q5⟩ : ∃ l, l = Obol.sA L4 a.toNat b.toNat y.toNat := ⟨_, rfl⟩
  have R' : Hid (Row ((w4.setCell ⟨k, a.toNat, none⟩ (.int .u32 z)).drew) k (u32s L5) 112) := Lib.hid (by rw [q5]; exact (rowSet R.out a.toNat _ hZ).drew)
  have H' : Hid (Obol.W32 16 L5) := Lib.hid (by rw [q5]; exact H.out.set a.toNat _ (Obol.add3_lt _ _ _))
  have B' := Lib.hid (bDrew (bSet (u := .int .u32 z) (o := a.toNat) B.out (Nat.le_refl k)))
  have Q5 := Lib.hid q5
  clear hZ q5 R H B ea eb
  go_region
  go_wp2_with fail
  clear f hz ca la ua cb lb ub
  generalize (w4.setCell ⟨k, a.toNat, none⟩ (.int .u32 z)).drew = w5 at R' B' ⊢
  have R := R'; have H := H'; have B := B'; clear R' H' B'
  try clear z
  -- statement 6
  obtain ⟨vd, ed, ld, ud⟩ := word_at H.out (i := d) hd0 (by omega)
  have cd : w5.cell? ⟨k, d.toNat, none⟩ = some (.int .u32 vd) := R.out.cell d.toNat ((u32s_at H.out hd0 (by omega)).trans (by rw [ed]))
  obtain ⟨va, ea, la, ua⟩ := word_at H.out (i := a) ha0 (by omega)
  have ca : w5.cell? ⟨k, a.toNat, none⟩ = some (.int .u32 va) := R.out.cell a.toNat ((u32s_at H.out ha0 (by omega)).trans (by rw [ea]))
  have hq := xor_eq ed ea (H.out.lt _) (H.out.lt _)
  have hql := Obol.xor_lt (H.out.lt d.toNat) (H.out.lt a.toNat)
  obtain ⟨u, hu⟩ : ∃ u : Int, bits .xor .u32 vd va = u := ⟨_, rfl⟩
  rw [hu] at hq
  have cR := fun w => rot8 u (by omega) (by omega) w
  obtain ⟨z, hz⟩ : ∃ z : Int, ((Obol.rotW 8 u.toNat : Nat) : Int) = z := ⟨_, rfl⟩
  have hZ : z = ((Obol.rotW 8 (L5.getD d.toNat 0 ^^^ L5.getD a.toNat 0) : Nat) : Int) := by rw [← hz, hq, Int.toNat_natCast]
  rw [hz] at cR
  replace cR := Lib.hid cR
  clear hz hq
  have f := R.out.free d.toNat
  obtain ⟨L6, q6⟩ : ∃ l, l = Obol.sX L5 8 d.toNat a.toNat := ⟨_, rfl⟩
  have R' : Hid (Row ((w5.setCell ⟨k, d.toNat, none⟩ (.int .u32 z)).drew) k (u32s L6) 112) := Lib.hid (by rw [q6]; exact (rowSet R.out d.toNat _ hZ).drew)
  have H' : Hid (Obol.W32 16 L6) := Lib.hid (by rw [q6]; exact H.out.set d.toNat _ (Obol.rotW_lt _ _ hql))
  have B' := Lib.hid (bDrew (bSet (u := .int .u32 z) (o := d.toNat) B.out (Nat.le_refl k)))
  have Q6 := Lib.hid q6
  clear hZ q6 R H B ed ea hql
  refine wp_region_still_tail 16 (by kernel_rfl) (by kernel_rfl) ?_
  simp only [List.take_succ_cons, List.take_zero, List.drop_succ_cons, List.drop_zero]
  repeat still_step
  still_call (cR.out _)
  repeat still_step
  refine wpStill_nil ?_
  change wpList _ _ _ _ _ w5.drew
  go_wp2_with fail
  clear f cR hu cd ld ud ca la ua
  generalize (w5.setCell ⟨k, d.toNat, none⟩ (.int .u32 z)).drew = w6 at R' B' ⊢
  have R := R'; have H := H'; have B := B'; clear R' H' B'
  try clear z
  -- statement 7
  obtain ⟨vc, ec, lc, uc⟩ := word_at H.out (i := c) hc0 (by omega)
  have cc : w6.cell? ⟨k, c.toNat, none⟩ = some (.int .u32 vc) := R.out.cell c.toNat ((u32s_at H.out hc0 (by omega)).trans (by rw [ec]))
  obtain ⟨vd, ed, ld, ud⟩ := word_at H.out (i := d) hd0 (by omega)
  have cd : w6.cell? ⟨k, d.toNat, none⟩ = some (.int .u32 vd) := R.out.cell d.toNat ((u32s_at H.out hd0 (by omega)).trans (by rw [ed]))
  obtain ⟨z, hz⟩ : ∃ z : Int, (vc + vd) % 4294967296 = z := ⟨_, rfl⟩
  have hZ : z = ((Obol.add2 (L6.getD c.toNat 0) (L6.getD d.toNat 0) : Nat) : Int) := by rw [← hz]; exact add2_is ec ed
  have f := R.out.free c.toNat
  obtain ⟨L7, q7⟩ : ∃ l, l = Obol.sC L6 c.toNat d.toNat := ⟨_, rfl⟩
  have R' : Hid (Row ((w6.setCell ⟨k, c.toNat, none⟩ (.int .u32 z)).drew) k (u32s L7) 112) := Lib.hid (by rw [q7]; exact (rowSet R.out c.toNat _ hZ).drew)
  have H' : Hid (Obol.W32 16 L7) := Lib.hid (by rw [q7]; exact H.out.set c.toNat _ (Obol.add2_lt _ _))
  have B' := Lib.hid (bDrew (bSet (u := .int .u32 z) (o := c.toNat) B.out (Nat.le_refl k)))
  have Q7 := Lib.hid q7
  clear hZ q7 R H B ec ed
  go_region
  go_wp2_with fail
  clear f hz cc lc uc cd ld ud
  generalize (w6.setCell ⟨k, c.toNat, none⟩ (.int .u32 z)).drew = w7 at R' B' ⊢
  have R := R'; have H := H'; have B := B'; clear R' H' B'
  try clear z
  -- statement 8
  obtain ⟨vb, eb, lb, ub⟩ := word_at H.out (i := b) hb0 (by omega)
  have cb : w7.cell? ⟨k, b.toNat, none⟩ = some (.int .u32 vb) := R.out.cell b.toNat ((u32s_at H.out hb0 (by omega)).trans (by rw [eb]))
  obtain ⟨vc, ec, lc, uc⟩ := word_at H.out (i := c) hc0 (by omega)
  have cc : w7.cell? ⟨k, c.toNat, none⟩ = some (.int .u32 vc) := R.out.cell c.toNat ((u32s_at H.out hc0 (by omega)).trans (by rw [ec]))
  have hq := xor_eq eb ec (H.out.lt _) (H.out.lt _)
  have hql := Obol.xor_lt (H.out.lt b.toNat) (H.out.lt c.toNat)
  obtain ⟨u, hu⟩ : ∃ u : Int, bits .xor .u32 vb vc = u := ⟨_, rfl⟩
  rw [hu] at hq
  have cR := fun w => rot7 u (by omega) (by omega) w
  obtain ⟨z, hz⟩ : ∃ z : Int, ((Obol.rotW 7 u.toNat : Nat) : Int) = z := ⟨_, rfl⟩
  have hZ : z = ((Obol.rotW 7 (L7.getD b.toNat 0 ^^^ L7.getD c.toNat 0) : Nat) : Int) := by rw [← hz, hq, Int.toNat_natCast]
  rw [hz] at cR
  replace cR := Lib.hid cR
  clear hz hq
  have f := R.out.free b.toNat
  obtain ⟨L8, q8⟩ : ∃ l, l = Obol.sX L7 7 b.toNat c.toNat := ⟨_, rfl⟩
  have R' : Hid (Row ((w7.setCell ⟨k, b.toNat, none⟩ (.int .u32 z)).drew) k (u32s L8) 112) := Lib.hid (by rw [q8]; exact (rowSet R.out b.toNat _ hZ).drew)
  have H' : Hid (Obol.W32 16 L8) := Lib.hid (by rw [q8]; exact H.out.set b.toNat _ (Obol.rotW_lt _ _ hql))
  have B' := Lib.hid (bDrew (bSet (u := .int .u32 z) (o := b.toNat) B.out (Nat.le_refl k)))
  have Q8 := Lib.hid q8
  clear hZ q8 R H B eb ec hql
  refine wp_region_still_tail 16 (by kernel_rfl) (by kernel_rfl) ?_
  simp only [List.take_succ_cons, List.take_zero, List.drop_succ_cons, List.drop_zero]
  repeat still_step
  still_call (cR.out _)
  repeat still_step
  refine wpStill_nil ?_
  change wpList _ _ _ _ _ w7.drew
  go_wp2_with fail
  clear f cR hu cb lb ub cc lc uc
  generalize (w7.setCell ⟨k, b.toNat, none⟩ (.int .u32 z)).drew = w8 at R' B' ⊢
  have R := R'; have H := H'; have B := B'; clear R' H' B'
  try clear z
  have e : Obol.mixL L0 a.toNat b.toNat c.toNat d.toNat x.toNat y.toNat = L8 := by
    unfold Obol.mixL
    rw [← Q1.out, ← Q2.out, ← Q3.out, ← Q4.out, ← Q5.out, ← Q6.out, ← Q7.out, ← Q8.out]
  have E := Lib.hid e
  clear e
  go_end0
  exact ⟨rfl, by rw [E.out]; exact R.out, B.out⟩

end Go.Proofs.YtallfmiikjmgaaaDoor
/- Bytes as cells; slices of the call's own that hold bytes. -/
namespace Go.Proofs.YtallfmiikjmgaaaDoor
open Go.RowKit

theorem info8 : (Tryd.prog.info? 5).map (fun i => (i.zero, i.size, i.bytes)) = some (some (.int .u8 0), 1, 1) := by kernel_rfl
/-- Bytes as cells. -/
def u8s (L : List Nat) : Array Value := (L.map fun (n : Nat) => Value.int .u8 (n : Int)).toArray
theorem u8s_size (L : List Nat) : (u8s L).size = L.length := by unfold u8s; simp
theorem u8s_get (L : List Nat) (i : Nat) (hi : i < L.length) : (u8s L)[i]? = some (.int .u8 ((L.getD i 0 : Nat) : Int)) := by
  unfold u8s
  rw [List.getElem?_toArray, List.getElem?_map, List.getElem?_eq_getElem hi, List.getD_eq_getElem?_getD, List.getElem?_eq_getElem hi]
  rfl
theorem Row.bl {w : World} {b : Nat} {L : List Nat} {t : TypeId} (h : Row w b (u8s L) t) : BL w b 0 L := fun i hi => by rw [Nat.zero_add]; exact h.cell i (u8s_get L i hi)
theorem rowSet8 {w : World} {k : Nat} {L : List Nat} {t : TypeId} (h : Row w k (u8s L) t) (i Z : Nat) {z : Int} (hz : z = (Z : Int)) : Row (w.setCell ⟨k, i, none⟩ (.int .u8 z)) k (u8s (L.set i Z)) t := by
  have e : (u8s L).setIfInBounds i (.int .u8 z) = u8s (L.set i Z) := by
    unfold u8s
    rw [List.setIfInBounds_toArray, List.map_set, hz]
  rw [← e]
  exact h.set i _

abbrev U8 (L : List Nat) : List Value := L.map fun (n : Nat) => Value.int .u8 (n : Int)
/-- A slice of the call's own: these bytes. -/
def OwnB (w : World) (base : Nat) (v : Value) (L : List Nat) : Prop := w.ownsRow base 5 1 v L.length (U8 L)
theorem OwnB.nil (w : World) (base : Nat) : OwnB w base (.slice none 0 0) [] := World.ownsRow_nil _ _ _ _
theorem OwnB.size {w : World} {base : Nat} {v : Value} {L : List Nat} (h : OwnB w base v L) (h0 : 0 < L.length) : ∃ g cap cur, v = .slice (some ⟨g, 0, none⟩) L.length cap ∧ base ≤ g ∧ Row w g cur 5 ∧ L.length ≤ cap ∧ cap ≤ maxLen ∧ cur.size = cap ∧ cur.toList.take L.length = U8 L := by
  rcases h.2 with ⟨rfl, h⟩ | ⟨g, cap, cur, h1, h2, h3, h4, h5, h6, h7⟩
  · omega
  · exact ⟨g, cap, cur, h1, h2, h3, h4, h5, by simpa using h6, by simpa using h7⟩
theorem OwnB.bl {w : World} {base : Nat} {L : List Nat} {g cap : Nat} (h : OwnB w base (.slice (some ⟨g, 0, none⟩) L.length cap) L) : BL w g 0 L := fun i hi => by
  rw [Nat.zero_add, World.ownsRow.cellAt h i (by omega)]
  simp only [List.getElem?_map, List.getElem?_eq_getElem hi, List.getD_eq_getElem?_getD]
  rfl
theorem OwnB.below {w w' : World} {base : Nat} {v : Value} {L : List Nat} (h : OwnB w base v L) (hb : Below w.heap.size w w') : OwnB w' base v L := by
  refine ⟨h.1, ?_⟩
  rcases h.2 with h | ⟨g, cap, cur, h1, h2, h3, h4⟩
  · exact .inl h
  · exact .inr ⟨g, cap, cur, h1, h2, (hb.block g (Array.getElem?_eq_some_iff.1 h3).1).trans h3, h4⟩

end Go.Proofs.YtallfmiikjmgaaaDoor
/- Bytes as strings. -/
namespace Go.Proofs.YtallfmiikjmgaaaDoor
open Go.RowKit

noncomputable def strB (L : List Nat) : ByteArray := strOfNums (L.map fun (n : Nat) => (n : Int))
theorem conv8 {w : World} {b o cap n : Nat} {L : List Nat} (h : BL w b o L) (hn : L.length = n) :
    (convert 42 9 (.slice (some ⟨b, o, none⟩) n cap)).run Tryd.prog w = .ok (.string (strB L)) w :=
  run_convert_bytes_arg (P := Tryd.prog) w 42 5 Tryd.underlying42 Tryd.underlying5 b o n cap (L.map fun (n : Nat) => (n : Int)) (by simp [hn])
    (fun i hi => by
      rw [h i (by omega), List.getD_eq_getElem?_getD, List.getD_eq_getElem?_getD, List.getElem?_map]
      cases L[i]? <;> rfl) 9 Tryd.underlying9
theorem conv0 (w : World) (ao : Option Addr) (c : Nat) :
    (convert 42 9 (.slice ao 0 c)).run Tryd.prog w = .ok (.string (strB [])) w := by
  cases ao with
  | none => exact run_convert_bytes_nil w 42 5 Tryd.underlying42 Tryd.underlying5 0 c 9 Tryd.underlying9
  | some ad =>
    rw [run_convert_bytes_string w 42 9 5 _ 0 c Tryd.underlying42 Tryd.underlying5 Tryd.underlying9,
      run_bytesToString w ad 0 c [] (run_loadCells_list w ad [] (fun j v h => by cases h))]
    rfl
theorem convAny {w : World} {ao : Option Addr} {len cap : Nat} {L : List Nat} (hn : L.length = len) (h : 0 < len → ∃ b o, ao = some ⟨b, o, none⟩ ∧ BL w b o L) :
    (convert 42 9 (.slice ao len cap)).run Tryd.prog w = .ok (.string (strB L)) w := by
  by_cases h0 : 0 < len
  · obtain ⟨b, o, rfl, hb⟩ := h h0
    exact conv8 hb hn
  · obtain rfl : len = 0 := by omega
    obtain rfl : L = [] := List.length_eq_zero_iff.1 hn
    exact conv0 w ao cap

end Go.Proofs.YtallfmiikjmgaaaDoor
/- Bytes copied into a slice of the call's own, and written there. -/
namespace Go.Proofs.YtallfmiikjmgaaaDoor
open Go.RowKit

theorem addB (b o j : Nat) : (⟨b, o, none⟩ : Addr).add j = ⟨b, o + j, none⟩ := by unfold Addr.add; split <;> simp_all
theorem own_set {w : World} {base g n cap : Nat} {L : List Nat} (h : OwnB w base (.slice (some ⟨g, 0, none⟩) n cap) L) (hn : L.length = n) (j Z : Nat) {z : Int} (hz : z = (Z : Int)) :
    OwnB (w.setCell ⟨g, j, none⟩ (.int .u8 z)) base (.slice (some ⟨g, 0, none⟩) n cap) (L.set j Z) := by
  subst hn hz
  have h2 := (World.ownsRow.stored h j (.int .u8 ((Z : Nat) : Int))).1
  unfold OwnB
  rw [List.length_set, U8, List.map_set]
  exact h2
theorem own_cell {w : World} {base g n cap : Nat} {L : List Nat} (h : OwnB w base (.slice (some ⟨g, 0, none⟩) n cap) L) (hn : L.length = n) {i : Int} (h0 : 0 ≤ i) (h1 : i < n) :
    w.cell? ⟨g, i.toNat, none⟩ = some (.int .u8 ((L.getD i.toNat 0 : Nat) : Int)) := by
  subst hn
  have := h.bl i.toNat (by omega)
  rwa [Nat.zero_add] at this
theorem own_blz {w : World} {base g n cap : Nat} {L : List Nat} (h : OwnB w base (.slice (some ⟨g, 0, none⟩) n cap) L) (hn : L.length = n) : BL w g 0 L := by
  subst hn
  exact h.bl
theorem own_free {w : World} {base g n cap : Nat} {L : List Nat} (h : OwnB w base (.slice (some ⟨g, 0, none⟩) n cap) L) (hn : L.length = n) (j : Nat) : w.frozen? ⟨g, j, none⟩ = false := by
  subst hn
  exact World.ownsRow.frozenAt h j
theorem own_ge {w : World} {base g n cap : Nat} {L : List Nat} (h : OwnB w base (.slice (some ⟨g, 0, none⟩) n cap) L) : base ≤ g := (World.ownsRow.lt h g rfl).1
/-- An empty slice of the call's own, just made. -/
theorem own_empty (w : World) (base : Nat) (hb : base ≤ w.heap.size) : OwnB (w.alloc (.cells #[] 5)) base (.slice (some ⟨w.heap.size, 0, none⟩) 0 0) [] :=
  World.ownsRow_made w #[] 0 hb (by decide) rfl
/-- What is owned again, as a slice whose shape is known. -/
theorem own_shape {w : World} {base : Nat} {v : Value} {L : List Nat} (h : OwnB w base v L) (hv : v ≠ .slice none 0 0) : ∃ g cap, v = .slice (some ⟨g, 0, none⟩) L.length cap := by
  rcases h.2 with ⟨rfl, _⟩ | ⟨g, cap, cur, rfl, _⟩
  · exact absurd rfl hv
  · exact ⟨g, cap, rfl⟩

theorem getD_put (L : List Nat) (i j z : Nat) (hi : i < L.length) : (L.set i z).getD j 0 = if i = j then z else L.getD j 0 := by
  rw [List.getD_eq_getElem?_getD, List.getElem?_set, List.getD_eq_getElem?_getD]
  split
  · rename_i h
    first | rfl | (rw [if_pos (by omega)]; rfl)
  · rfl
theorem own_cap {w : World} {base g n cap : Nat} {L : List Nat} (h : OwnB w base (.slice (some ⟨g, 0, none⟩) n cap) L) : L.length ≤ cap ∧ cap ≤ 9223372036854775807 := by
  rcases h.2 with ⟨h, _⟩ | ⟨g', cap', cur, h1, _, _, h4, h5, _⟩
  · cases h
  · simp only [Value.slice.injEq] at h1
    obtain ⟨_, _, rfl⟩ := h1
    exact ⟨h4, by unfold maxLen at h5; omega⟩
theorem own_other {w : World} {base g n cap b o : Nat} {u : Value} {L : List Nat} (h : OwnB w base (.slice (some ⟨g, 0, none⟩) n cap) L) (hne : g ≠ b) : OwnB (w.setCell ⟨b, o, none⟩ u) base (.slice (some ⟨g, 0, none⟩) n cap) L := by
  refine ⟨h.1, ?_⟩
  rcases h.2 with h | ⟨g', cap', cur, h1, h2, h3, h4⟩
  · exact .inl h
  · refine .inr ⟨g', cap', cur, h1, h2, ?_, h4⟩
    simp only [Value.slice.injEq, Option.some.injEq, Addr.mk.injEq, and_true] at h1
    rw [← h1.1]
    rw [← h1.1] at h3
    exact (heap_setCell_other w ⟨b, o, none⟩ g u hne).trans h3
theorem own_lt {w : World} {base g n cap : Nat} {L : List Nat} (h : OwnB w base (.slice (some ⟨g, 0, none⟩) n cap) L) : g < w.heap.size := (World.ownsRow.lt h g rfl).2
/-- What is known behind the copy. -/
structure Cp (w w1 w2 : World) (g cap2 len : Nat) (L : List Nat) : Prop where
  own : OwnB w2 w1.heap.size (.slice (some ⟨g, 0, none⟩) len cap2) L
  bel : Below w1.heap.size w1 w2

/-- A loop that adds one to each byte: what its rounds hold on to. -/
def LoI (base : Nat) (wr : World) (g cap2 len : Nat) (i : Int) : Prop := 0 ≤ i ∧ i ≤ len ∧ ∃ L', L'.length = len ∧ (∀ j, L'.getD j 0 < 256) ∧ OwnB wr base (.slice (some ⟨g, 0, none⟩) len cap2) L'
theorem LoI.step {base : Nat} {wr : World} {g cap2 len : Nat} {i : Int} (h : LoI base wr g cap2 len i) (hi : i < len) :
    ∃ v : Int, wr.cell? ⟨g, i.toNat, none⟩ = some (.int .u8 v) ∧ wr.frozen? ⟨g, i.toNat, none⟩ = false ∧ 0 ≤ v ∧ v ≤ 255 ∧ LoI base (wr.setCell ⟨g, i.toNat, none⟩ (.int .u8 ((v + 1) % 256))) g cap2 len (i + 1) := by
  obtain ⟨h0, h1, L', hl, hb, hO⟩ := h
  have hq := hb i.toNat
  refine ⟨_, own_cell hO hl h0 hi, own_free hO hl _, by omega, by omega, by omega, by omega, L'.set i.toNat ((L'.getD i.toNat 0 + 1) % 256), by rw [List.length_set]; exact hl, fun j => ?_, own_set hO hl _ _ (by omega)⟩
  rw [getD_put _ _ _ _ (by omega)]
  split
  · omega
  · exact hb j


end Go.Proofs.YtallfmiikjmgaaaDoor
/- Walks: package edwards: bytes to points. -/
namespace Go.Proofs.YtallfmiikjmgaaaDoor
open Go.RowKit

/-- What Read tells of a number. -/
noncomputable def readV (n : Nat) : Value := match Obol.readN n with
  | .some p => .tuple #[edV (p.1 : Nat) (p.2 : Nat), .nilIface]
  | .none => .tuple #[edV 0 0, errV 3]

def ReadI (L : List Nat) (N i : Int) : Prop := 0 ≤ N ∧ 0 ≤ i ∧ i ≤ 8 ∧ N < 256 ^ i.toNat ∧ N = (((L.take i.toNat).foldl (fun n c => 256 * n + c) 0 : Nat) : Int)
theorem ReadI.bound {L : List Nat} {N i : Int} (h : ReadI L N i) (hi : i < 8) : 0 ≤ N ∧ N < 72057594037927936 := by
  refine ⟨h.1, Int.lt_of_lt_of_le h.2.2.2.1 ?_⟩
  have : (256 : Nat) ^ i.toNat ≤ 256 ^ 7 := Nat.pow_le_pow_right (by decide) (by have := h.2.1; omega)
  have e : ((256 ^ i.toNat : Nat) : Int) = 256 ^ i.toNat := by rw [Int.natCast_pow]; rfl
  omega
theorem ReadI.step {L : List Nat} {N i v : Int} (H : B8 8 L) (h : ReadI L N i) (hi : i < 8) (hv : v = ((L.getD i.toNat 0 : Nat) : Int)) (_ : 0 ≤ v) (v1 : v ≤ 255) : ReadI L (256 * N + v) (i + 1) := by
  obtain ⟨h0, h1, h2, h3, h4⟩ := h
  have e : (i + 1).toNat = i.toNat + 1 := by omega
  have hl : i.toNat < L.length := by rw [H.len]; omega
  refine ⟨by omega, by omega, by omega, ?_, ?_⟩
  · rw [e, Int.pow_succ]; omega
  · rw [e, List.take_add_one, List.getElem?_eq_getElem hl, List.foldl_append, h4, hv, List.getD_eq_getElem?_getD, List.getElem?_eq_getElem hl]
    simp only [Option.toList, List.foldl, Option.getD_some]
    omega
theorem ReadI.done {L : List Nat} {N : Int} (H : B8 8 L) (h : ReadI L N 8) : N = ((Obol.num8 L : Nat) : Int) := by
  have := h.2.2.2.2
  rw [show (8 : Int).toNat = 8 from rfl, List.take_of_length_le (by rw [H.len]; decide)] at this
  exact this

end Go.Proofs.YtallfmiikjmgaaaDoor
/- Walks: the references of layers 1, 2, 7: squares, numbers of bytes, bytes of numbers. -/
namespace Go.Proofs.YtallfmiikjmgaaaDoor
open Go.RowKit

theorem r2Number (b o cap : Nat) (L : List Nat) (H0 : B8 8 L) (w : World) (hc0 : BL w b o L) :
    Calls Tryd.prog 49 #[.slice (some ⟨b, o, none⟩) 8 cap] w fun e w' => e = .returned (.int .u64 ((Obol.num8 L : Nat) : Int)) ∧ w' = w := by
  have H := Lib.hid H0
  have C := Lib.hid hc0
  clear hc0 H0
  go_enter Tryd.func49, Tryd.ntmps49
  go_wp2
  go_loopw [3, 4] (fun q1 q2 wr => ∃ N i : Int, q1 = .int .u64 N ∧ q2 = .int .i64 i ∧ Hid (ReadI L N i) ∧ wr = w) (fun _ q2 _ => (8 - intOf q2).toNat)
  case atStart => exact ⟨0, 0, rfl, rfl, Lib.hid ⟨by omega, by omega, by omega, by decide, rfl⟩, rfl⟩
  case round =>
    obtain ⟨N, i, rfl, rfl, HI, rfl⟩ := hrel
    have i0 := HI.out.2.1
    have i1 := HI.out.2.2.1
    by_cases hi : i < 8
    · obtain ⟨n0, n1⟩ := HI.out.bound hi
      obtain ⟨v, hv, he, v0, v1⟩ := C.out.at H.out i0 hi
      have HN := Lib.hid (HI.out.step H.out hi he v0 v1)
      clear he
      go_wp2
      exact ⟨⟨_, _, rfl, rfl, HN, trivial⟩, by simp [intOf]; omega⟩
    · obtain rfl : i = 8 := by omega
      have hN := Lib.hid (HI.out.done H.out)
      clear HI
      go_wp2
      go_ret
      exact ⟨ret_u64 hN.out, rfl⟩

/-- The bytes that are laid from the last on. -/
def B2I (n : Nat) (N i : Int) (L : List Nat) : Prop := 0 ≤ N ∧ N ≤ 18446744073709551615 ∧ -1 ≤ i ∧ i ≤ 7 ∧ N.toNat = n / 256 ^ (7 - i).toNat ∧ L.length = 8 ∧ ∀ j : Nat, i < (j : Int) → j < 8 → L.getD j 0 = (Obol.be8 n).getD j 0
theorem be8_get (n j : Nat) (h : j < 8) : (Obol.be8 n).getD j 0 = n / 256 ^ (7 - j) % 256 := by
  match j, h with
  | 0, _ => rfl
  | 1, _ => rfl
  | 2, _ => rfl
  | 3, _ => rfl
  | 4, _ => rfl
  | 5, _ => rfl
  | 6, _ => rfl
  | 7, _ => simp [Obol.be8]
theorem B2I.step {n : Nat} {N i : Int} {L : List Nat} (h : B2I n N i L) (hi : 0 ≤ i) : B2I n (N / 256) (i - 1) (L.set i.toNat (N % 256).toNat) := by
  obtain ⟨h0, h1, h2, h3, h4, h5, h6⟩ := h
  have e : (7 - (i - 1)).toNat = (7 - i).toNat + 1 := by omega
  refine ⟨by omega, by omega, by omega, by omega, ?_, by rw [List.length_set]; exact h5, fun j hj hj8 => ?_⟩
  · rw [e, Nat.pow_succ, ← Nat.div_div_eq_div_mul, ← h4]
    omega
  · rw [List.getD_eq_getElem?_getD, List.getElem?_set]
    by_cases hji : i.toNat = j
    · rw [if_pos hji, if_pos (by omega)]
      rw [be8_get n j hj8, show 7 - j = (7 - i).toNat by omega, ← h4]
      simp only [Option.getD_some]
      omega
    · rw [if_neg hji, ← List.getD_eq_getElem?_getD]
      exact h6 j (by omega) hj8
theorem B2I.done {n : Nat} {N : Int} {L : List Nat} (h : B2I n N (-1) L) : L = Obol.be8 n := by
  obtain ⟨h0, h1, h2, h3, h4, h5, h6⟩ := h
  have hl : (Obol.be8 n).length = 8 := rfl
  refine List.ext_getElem (by omega) fun j h1 h2 => ?_
  have := h6 j (by omega) (by omega)
  rw [List.getD_eq_getElem?_getD, List.getD_eq_getElem?_getD, List.getElem?_eq_getElem h1, List.getElem?_eq_getElem h2] at this
  exact this

abbrev zeros8 : List Nat := [0, 0, 0, 0, 0, 0, 0, 0]
theorem r2Bytes (n : Int) (hn0 : 0 ≤ n) (hn1 : n ≤ 18446744073709551615) (w : World) :
    Calls Tryd.prog 46 #[.int .u64 n] w fun e w' => e = .returned (.slice (some ⟨w.heap.size, 0, none⟩) 8 8) ∧ Row w' w.heap.size (u8s (Obol.be8 n.toNat)) 5 ∧ Below w.heap.size w w' := by
  obtain ⟨ti, hti, htz, hts, htb⟩ := info_parts info8
  have hmk : ∀ W : World, (Instr.makeSlice 42 (.int .i64 8) (.int .i64 8)).run Tryd.prog W = .ok (.slice (some ⟨W.heap.size, 0, none⟩) 8 8) (W.alloc (.cells (u8s zeros8) 5)) := fun W => by
    have h := run_make (P := Tryd.prog) W 42 5 ti (.int .u8 0) Tryd.underlying42 hti htz .i64 .i64 8 8 (by omega) (by omega) (by rw [htb]; omega) (by omega)
    rw [hts] at h
    rw [h]
    have e : madeCells (Value.int .u8 0).cells 8 = u8s zeros8 := Array.toList_inj.1 ((toList_madeCells_one (.int .u8 0) 8).trans rfl)
    rw [← e]
    rfl
  go_enter Tryd.func46, Tryd.ntmps46
  go_wp2_with fail
  go_loopw [0, 4] (fun q1 q2 wr => ∃ (N i : Int) (L : List Nat), q1 = .int .u64 N ∧ q2 = .int .i64 i ∧ Hid (B2I n.toNat N i L) ∧ Row wr w.heap.size (u8s L) 5 ∧ Below w.heap.size w wr) (fun _ q2 _ => (1 + intOf q2).toNat)
  case atStart => exact ⟨n, 7, zeros8, rfl, rfl, Lib.hid ⟨hn0, hn1, by omega, by omega, by simp, rfl, fun j h1 h2 => by omega⟩, Row.new _ _ _, bAlloc (Below.refl _ _) _⟩
  case round =>
    obtain ⟨N, i, L, rfl, rfl, HI, R, B⟩ := hrel
    obtain ⟨n0, n1, i0, i1, -, hL, -⟩ := HI.out
    by_cases hi : 0 ≤ i
    · have HN := Lib.hid (HI.out.step hi)
      have hc := R.cell i.toNat (u8s_get L i.toNat (by omega))
      have hf := R.free i.toNat
      have RN := rowSet8 R i.toNat (N % 256).toNat (z := N % 256) (by omega)
      replace hL := Lib.hid hL
      replace R := Lib.hid R
      replace B := Lib.hid (bSet (o := i.toNat) (u := .int .u8 (N % 256)) B (Nat.le_refl _))
      replace RN := Lib.hid RN
      have ht1 : N.tmod 256 = N % 256 := Int.tmod_eq_emod_of_nonneg n0
      have ht2 : N.tdiv 256 = N / 256 := Int.tdiv_eq_ediv_of_nonneg n0
      go_wp2_with fail
      exact ⟨⟨_, _, _, rfl, rfl, HN, RN.out, B.out⟩, by simp [intOf]; omega⟩
    · obtain rfl : i = -1 := by omega
      have hd := HI.out.done
      rw [hd] at R
      replace R := Lib.hid R
      replace B := Lib.hid B
      clear hd HI
      go_wp2_with fail
      go_ret
      exact ⟨rfl, R.out, B.out⟩

/-- The number of a point. -/
theorem r7Bytes (X Y : Int) (hX : 0 ≤ X) (hX1 : X ≤ 18446744073709551615) (hY : 0 ≤ Y) (hY1 : Y < 9223372036854775808) (w : World) :
    Calls Tryd.prog 44 #[edV X Y] w fun e w' => ∃ g, e = .returned (.slice (some ⟨g, 0, none⟩) 8 8) ∧ w.heap.size ≤ g ∧ Row w' g (u8s (Obol.be8 (Obol.codeN (X.toNat, Y.toNat)))) 5 ∧ Below w.heap.size w w' := by
  have e1 : X.tmod 2 = X % 2 := Int.tmod_eq_emod_of_nonneg hX
  have hB := fun (n : Int) (h0 : 0 ≤ n) (h1 : n ≤ 18446744073709551615) w => r2Bytes n h0 h1 w
  rcases (by omega : X % 2 = 0 ∨ X % 2 = 1) with hp | hp
  · have hc : Hid (Obol.codeN (X.toNat, Y.toNat) = Y.toNat) := Lib.hid (by unfold Obol.codeN; simp only; omega)
    rw [hp] at e1
    go_enter Tryd.func44, Tryd.ntmps44
    go_wp2_with fail
    refine (hB Y hY (by omega) _).mono ?_
    rintro e w' ⟨rfl, R, B⟩
    rw [World.size_alloc] at R
    replace R := Lib.hid R
    replace B := Lib.hid B
    go_wp2_with fail
    go_ret
    refine ⟨_, rfl, by simp, by rw [hc.out]; exact R.out, bThen (bAlloc (Below.refl _ _) _) B.out (by simp)⟩
  · have hc : Hid (Obol.codeN (X.toNat, Y.toNat) = (Y + 9223372036854775808).toNat) := Lib.hid (by unfold Obol.codeN; simp only; omega)
    rw [hp] at e1
    go_enter Tryd.func44, Tryd.ntmps44
    go_wp2_with fail
    refine (hB (Y + 9223372036854775808) (by omega) (by omega) _).mono ?_
    rintro e w' ⟨rfl, R, B⟩
    rw [World.size_alloc] at R
    replace R := Lib.hid R
    replace B := Lib.hid B
    go_wp2_with fail
    go_ret
    refine ⟨_, rfl, by simp, by rw [hc.out]; exact R.out, bThen (bAlloc (Below.refl _ _) _) B.out (by simp)⟩

end Go.Proofs.YtallfmiikjmgaaaDoor
/- Walks: package edwards: a number's bytes. -/
namespace Go.Proofs.YtallfmiikjmgaaaDoor
open Go.RowKit

theorem take_be (n j : Nat) (h : j < 8) : (Obol.be8 n).take (j + 1) = (Obol.be8 n).take j ++ [n / 2 ^ (56 - 8 * j) % 256] := by
  match j, h with
  | 0, _ => rfl
  | 1, _ => rfl
  | 2, _ => rfl
  | 3, _ => rfl
  | 4, _ => rfl
  | 5, _ => rfl
  | 6, _ => rfl
  | 7, _ => simp [Obol.be8]

set_option maxRecDepth 8000 in
set_option maxHeartbeats 1000000 in
theorem ePut (base : Nat) (v : Value) (L : List Nat) (k : Int) (hk0 : 0 ≤ k) (hk1 : k ≤ 18446744073709551615) (hL : L.length ≤ 1000) (w : World) (hB : base ≤ w.heap.size) (hown : OwnB w base v L) :
    Calls Tryd.prog 87 #[v, .int .u64 k] w fun e w' => ∃ v', e = .returned v' ∧ OwnB w' base v' (L ++ Obol.be8 k.toNat) ∧ Below base w w' := by
  obtain ⟨ti, hti, htz, hts, htb⟩ := info_parts info8
  go_enter Tryd.func87, Tryd.ntmps87
  go_wp2_with fail
  go_loopw [0, 5] (fun q1 q2 wr => ∃ j : Nat, j ≤ 8 ∧ q2 = .int .i64 (56 - 8 * (j : Int)) ∧ OwnB wr base q1 (L ++ (Obol.be8 k.toNat).take j) ∧ Below base w wr) (fun _ q2 _ => (8 + intOf q2).toNat)
  case atStart => exact ⟨0, by omega, rfl, by simpa using hown, Below.refl _ _⟩
  case round =>
    obtain ⟨j, hj, rfl, hO, hW⟩ := hrel
    have hsz := hW.size
    by_cases hj8 : j < 8
    · have hlen : (L ++ (Obol.be8 k.toNat).take j).length = L.length + j := by simp [Obol.be8]; omega
      go_wp2_with (first
        | (at_builtin; refine wpList_append_own _ rfl _ _ 42 rfl base 5 ti (.int .u8 0) 1 1 Tryd.underlying42 hti htz hts htb rfl (by decide) _ _ _ rfl (hO.alloc _) ⟨wr.heap.size, 0, none⟩ 1 1 [.int .u8 (k / 2 ^ (56 - 8 * j) % 256)] ?c0 rfl ?c1 ?c2 ?c3 ?c4 ?c5 ?_)
        | go_in)
      case c0 => rfl
      case c1 =>
        intro q u hq
        match q, hq with
        | 0, hq => simp at hq; subst hq; simp [Addr.add]
      case c2 => intro u hu; simp at hu; subst hu; rfl
      case c3 => rw [hlen]; unfold maxLen; omega
      case c4 => rw [hlen]; omega
      case c5 => simp; omega
      · intro v' w1 hown' hgrow _
        have hrow := hO.lt
        have HO : OwnB w1 base v' (L ++ (Obol.be8 k.toNat).take (j + 1)) := by
          have e : L ++ (Obol.be8 k.toNat).take (j + 1) = (L ++ (Obol.be8 k.toNat).take j) ++ [k.toNat / 2 ^ (56 - 8 * j) % 256] := by rw [take_be _ _ hj8, List.append_assoc]
          have e2 : Value.int .u8 (k / 2 ^ (56 - 8 * j) % 256) = Value.int .u8 ((k.toNat / 2 ^ (56 - 8 * j) % 256 : Nat) : Int) := by
            obtain ⟨K, rfl⟩ := Int.eq_ofNat_of_zero_le hk0
            simp
          have e5 : ((L ++ (Obol.be8 k.toNat).take j) ++ [k.toNat / 2 ^ (56 - 8 * j) % 256]).length = L.length + j + 1 := by rw [List.length_append, hlen]; rfl
          unfold OwnB
          rw [e, e5]
          rw [e2] at hown'
          simpa [U8] using hown'
        have HW : Below base w w1 := (hW.alloc (by omega) _).grown hgrow (by simp; omega) (fun q hq => (hrow q hq).1)
        replace HO := Lib.hid HO
        replace HW := Lib.hid HW
        clear hown' hgrow hO hW hrow hlen
        go_wp2
        go_roundw
        case rel => exact ⟨j + 1, by omega, by simp; omega, HO.out, HW.out⟩
        case measure => simp [intOf]; omega
    · obtain rfl : j = 8 := by omega
      go_wp2_with fail
      go_ret
      exact ⟨_, rfl, hO, hW⟩

end Go.Proofs.YtallfmiikjmgaaaDoor
/- Walks: package edwards: points to bytes. -/
namespace Go.Proofs.YtallfmiikjmgaaaDoor
open Go.RowKit

theorem or_0 {n : Int} (h0 : 0 ≤ n) (h1 : n < 9223372036854775808) : bits .or .u64 n 0 = n := by
  obtain ⟨N, rfl⟩ := Int.eq_ofNat_of_zero_le h0
  have := u64_or_nat N 0 (by omega) (by decide)
  rw [Nat.or_zero] at this
  exact this
theorem or_63 {n : Int} (h0 : 0 ≤ n) (h1 : n < 9223372036854775808) : bits .or .u64 n 9223372036854775808 = n + 9223372036854775808 := by
  obtain ⟨N, rfl⟩ := Int.eq_ofNat_of_zero_le h0
  have e := u64_or_nat N 9223372036854775808 (by omega) (by decide)
  have h2 := Nat.two_pow_add_eq_or_of_lt (i := 63) (b := N) (by omega) 1
  rw [Nat.or_comm, Nat.mul_one] at h2
  rw [show (9223372036854775808 : Int) = ((9223372036854775808 : Nat) : Int) from rfl, e, show (9223372036854775808 : Nat) = 2 ^ 63 from rfl, ← h2]
  omega

/-- What Write tells of no point. -/
theorem eWriteNo (X Y : Int) (hX : 0 ≤ X) (hY : 0 ≤ Y) (hn : Obol.isN (X.toNat, Y.toNat) = false) (w : World) :
    Calls Tryd.prog 63 #[edV X Y] w fun e w' => e = .returned (.tuple #[.slice none 0 0, errV 1]) ∧ Below w.heap.size w w' := by
  have hI := fun w => eIs X Y hX hY w
  rw [hn] at hI
  replace hI := Lib.hid hI
  clear hn
  go_enter Tryd.func63, Tryd.ntmps63
  go_wp2_with fail
  refine (hI.out _).mono ?_
  rintro e w' ⟨rfl, hb⟩
  have B := Lib.hid (bThen (bAlloc (Below.refl w.heap.size w) _) hb (by simp))
  clear hb
  go_wp2_with fail
  go_ret2
  exact ⟨rfl, B.out⟩

theorem eWrite (X Y : Int) (hX : 0 ≤ X) (hY : 0 ≤ Y) (hn : Obol.isN (X.toNat, Y.toNat) = true) (w : World) :
    Calls Tryd.prog 63 #[edV X Y] w fun e w' => ∃ v, e = .returned (.tuple #[v, .nilIface]) ∧ OwnB w' w.heap.size v (Obol.be8 (Obol.codeN (X.toNat, Y.toNat))) ∧ Below w.heap.size w w' := by
  have hI := fun w => eIs X Y hX hY w
  rw [hn] at hI
  replace hI := Lib.hid hI
  have hlt : X < 288230376287764481 ∧ Y < 288230376287764481 := by
    unfold Obol.isN at hn
    simp only [Bool.and_eq_true, decide_eq_true_eq] at hn
    have h1 := hn.1.1
    have h2 := hn.1.2
    rw [Obol.R_def] at h1 h2
    omega
  have ha := and_1 hX (by omega)
  have ho0 := or_0 hY (by omega)
  have ho1 := or_63 hY (by omega)
  have hP := fun (k : Int) (h0 : 0 ≤ k) (h1 : k ≤ 18446744073709551615) (W : World) (hB : w.heap.size ≤ W.heap.size) => ePut w.heap.size (.slice none 0 0) [] k h0 h1 (by decide) W hB (OwnB.nil _ _)
  replace hP := Lib.hid hP
  clear hn
  rcases (by omega : X % 2 = 0 ∨ X % 2 = 1) with hp | hp
  · have hc : Hid (Obol.codeN (X.toNat, Y.toNat) = Y.toNat) := Lib.hid (by unfold Obol.codeN; simp only; omega)
    rw [hp] at ha
    go_enter Tryd.func63, Tryd.ntmps63
    go_wp2_with fail
    refine (hI.out _).mono ?_
    rintro e w1 ⟨rfl, hb⟩
    have R := (Row.new w #[.int .u64 X, .int .u64 Y] 29).below hb (by simp)
    have B := bThen (bAlloc (Below.refl w.heap.size w) _) hb (by simp)
    have g0 := R.cell 0 rfl
    have g1 := R.cell 1 rfl
    have hz := B.size
    replace B := Lib.hid B
    clear hb
    go_wp2_with fail
    refine (hP.out Y hY (by omega) _ hz).mono ?_
    rintro e w2 ⟨v, rfl, hO, hb⟩
    replace hO := Lib.hid hO
    replace B := Lib.hid (B.out.trans hb)
    clear hb
    go_wp2_with fail
    go_ret2
    refine ⟨_, rfl, ?_, B.out⟩
    rw [hc.out]
    exact hO.out
  · have hc : Hid (Obol.codeN (X.toNat, Y.toNat) = (Y + 9223372036854775808).toNat) := Lib.hid (by unfold Obol.codeN; simp only; omega)
    rw [hp] at ha
    go_enter Tryd.func63, Tryd.ntmps63
    go_wp2_with fail
    refine (hI.out _).mono ?_
    rintro e w1 ⟨rfl, hb⟩
    have R := (Row.new w #[.int .u64 X, .int .u64 Y] 29).below hb (by simp)
    have B := bThen (bAlloc (Below.refl w.heap.size w) _) hb (by simp)
    have g0 := R.cell 0 rfl
    have g1 := R.cell 1 rfl
    have hz := B.size
    replace B := Lib.hid B
    clear hb
    go_wp2_with fail
    refine (hP.out (Y + 9223372036854775808) (by omega) (by omega) _ hz).mono ?_
    rintro e w2 ⟨v, rfl, hO, hb⟩
    replace hO := Lib.hid hO
    replace B := Lib.hid (B.out.trans hb)
    clear hb
    go_wp2_with fail
    go_ret2
    refine ⟨_, rfl, ?_, B.out⟩
    rw [hc.out]
    exact hO.out

end Go.Proofs.YtallfmiikjmgaaaDoor
/- An argument of type []byte, opened once. -/
namespace Go.Proofs.YtallfmiikjmgaaaDoor
open Go.ChangeShapes Go.WideShapes Go.ChangeAt Go.RowKit

theorem cellsU8 : Tryd.prog.cellsOf 5 = 1 := by kernel_rfl
theorem laidOutA : laidOutB Tryd.prog = true := by kernel_rfl
theorem readB : Tryd.prog.readableRec 42 = true := of_decide_eq_true (by kernel_rfl)

/-- Its bytes, nil or not. -/
theorem viewB {H : Type} {enc : TypeId × Value → H} {W : World} {a0 : Option Addr} {len cap : Nat} {d : DataW H} {p : List MemPlace}
    (h : DataW.Trod enc Tryd.prog W 0 (fun _ => true) true 42 (.slice a0 len cap) d p) :
    ∃ L : List Nat, B8 len L ∧ len ≤ cap ∧ cap ≤ 9223372036854775807 ∧ (a0 = none → len = 0 ∧ cap = 0) ∧ (0 < len → ∃ b o, a0 = some ⟨b, o, none⟩ ∧ BL W b o L) := by
  obtain ⟨fuel, hf⟩ := h
  rcases open_ints Tryd.underlying42 Tryd.underlying5 cellsU8 hf with ⟨hcs, hx⟩ | ⟨a, len', cap', zs, hcs, _, hl, hm, hz, hx, hcell, hwz⟩
  · simp [Value.cells] at hcs
    obtain ⟨rfl, rfl, rfl⟩ := hcs
    exact ⟨[], ⟨rfl, fun i => by simp⟩, Nat.le_refl _, by omega, fun _ => ⟨rfl, rfl⟩, fun h => by omega⟩
  · simp [Value.cells] at hcs
    obtain ⟨rfl, rfl, rfl⟩ := hcs
    simp only [if_true] at hz
    have hw : ∀ n ∈ zs, 0 ≤ n ∧ n ≤ 255 := fun n hn => by have := bounds_u8 (hwz n hn); omega
    have hL : ((zs.take len).map Int.toNat).length = len := by simp; omega
    refine ⟨(zs.take len).map Int.toNat, ⟨hL, fun i => ?_⟩, hl, by unfold maxLen at hm; omega, (fun h => by cases h), fun h0 => ?_⟩
    · rw [List.getD_eq_getElem?_getD, List.getElem?_map]
      cases hi : (zs.take len)[i]? with
      | none => decide
      | some x =>
        have := hw x (List.mem_of_mem_take (List.mem_of_getElem? hi))
        simp
        omega
    · obtain ⟨b, off, spot⟩ := a
      have hspot : spot = none := by simpa [Addr.add] using World.cell?_spot (hcell 0 (by omega))
      subst hspot
      refine ⟨b, off, rfl, fun i hi => ?_⟩
      rw [hL] at hi
      have hc := hcell i (by omega)
      rw [add_plain] at hc
      rw [hc, List.getD_eq_getElem?_getD, List.getD_eq_getElem?_getD, List.getElem?_map, List.getElem?_take, if_pos hi]
      have hi2 : i < zs.length := by omega
      rw [List.getElem?_eq_getElem hi2]
      have := hw _ (List.getElem_mem hi2)
      simp
      omega

theorem bytesU8 : Tryd.prog.bytesOf 5 = 1 := by kernel_rfl
theorem viewSize {H : Type} {enc : TypeId × Value → H} {W : World} {a0 : Option Addr} {len cap : Nat} {d : DataW H} {p : List MemPlace}
    (h : DataW.Trod enc Tryd.prog W 0 (fun _ => true) true 42 (.slice a0 len cap) d p) : (d = .nil ∧ cap = 0) ∨ ∃ es sp, d = .slice es sp ∧ es.length + sp.length = cap := by
  obtain ⟨fuel, hf⟩ := h
  rcases open_ints Tryd.underlying42 Tryd.underlying5 cellsU8 hf with ⟨hcs, hx⟩ | ⟨a, len', cap', zs, hcs, _, hl, hm, hz, hx, hcell, hwz⟩
  · simp [Value.cells] at hcs
    simp only [Prod.mk.injEq] at hx
    exact Or.inl ⟨hx.1, hcs.2.2⟩
  · simp [Value.cells] at hcs
    obtain ⟨rfl, rfl, rfl⟩ := hcs
    simp only [Prod.mk.injEq] at hx
    simp only [if_true] at hz
    exact Or.inr ⟨_, _, hx.1, by simp [lits]; omega⟩

end Go.Proofs.YtallfmiikjmgaaaDoor
