import Derived.Test.YtiffendfojhapaaDoorWrow
import Derived.Test.YtiffendfojhapaaDoorWbits
import Derived.Deep.RegionWith
import Derived.BigRegion
/- Walks: package blake: words; the mixing of four words. -/
namespace Obol

def rotW (n x : Nat) : Nat := (x * 2 ^ (32 - n) % 4294967296) ||| (x / 2 ^ n)
def add3 (p q x : Nat) : Nat := (p + q + x) % 4294967296
def add2 (p q : Nat) : Nat := (p + q) % 4294967296
/-- Four words of sixteen, with two more: eight statements. -/
def sA (L : List Nat) (a b x : Nat) : List Nat := L.set a (add3 (L.getD a 0) (L.getD b 0) x)
def sC (L : List Nat) (c d : Nat) : List Nat := L.set c (add2 (L.getD c 0) (L.getD d 0))
def sX (L : List Nat) (n t s : Nat) : List Nat := L.set t (rotW n (L.getD t 0 ^^^ L.getD s 0))
def mixL (L : List Nat) (a b c d x y : Nat) : List Nat :=
  sX (sC (sX (sA (sX (sC (sX (sA L a b x) 16 d a) c d) 12 b c) a b y) 8 d a) c d) 7 b c

/-- So many words. -/
structure W32 (n : Nat) (L : List Nat) : Prop where
  len : L.length = n
  lt : ∀ i, L.getD i 0 < 4294967296
theorem W32.set {n : Nat} {L : List Nat} (h : W32 n L) (i z : Nat) (hz : z < 4294967296) : W32 n (L.set i z) := by
  refine ⟨by rw [List.length_set]; exact h.len, fun j => ?_⟩
  rw [List.getD_eq_getElem?_getD, List.getElem?_set]
  split
  · split
    · exact hz
    · decide
  · rw [← List.getD_eq_getElem?_getD]; exact h.lt j
theorem rotW_lt (n x : Nat) (hx : x < 4294967296) : rotW n x < 4294967296 := by
  unfold rotW
  have h1 : x * 2 ^ (32 - n) % 4294967296 < 2 ^ 32 := Nat.mod_lt _ (by decide)
  have h2 : x / 2 ^ n < 2 ^ 32 := Nat.lt_of_le_of_lt (Nat.div_le_self _ _) hx
  exact Nat.or_lt_two_pow h1 h2
theorem add3_lt (p q x : Nat) : add3 p q x < 4294967296 := Nat.mod_lt _ (by decide)
theorem add2_lt (p q : Nat) : add2 p q < 4294967296 := Nat.mod_lt _ (by decide)
theorem xor_lt {p q : Nat} (hp : p < 4294967296) (hq : q < 4294967296) : p ^^^ q < 4294967296 := Nat.xor_lt_two_pow (n := 32) hp hq

end Obol
namespace Go.Proofs.YtiffendfojhapaaDoor
open Go.RowKit

def u32s (L : List Nat) : Array Value := (L.map fun (n : Nat) => Value.int .u32 (n : Int)).toArray
theorem u32s_get {n : Nat} {L : List Nat} (h : Obol.W32 n L) (i : Nat) (hi : i < n) : (u32s L)[i]? = some (.int .u32 ((L.getD i 0 : Nat) : Int)) := by
  have hl : i < L.length := by rw [h.len]; exact hi
  unfold u32s
  rw [List.getElem?_toArray, List.getElem?_map, List.getElem?_eq_getElem hl, List.getD_eq_getElem?_getD, List.getElem?_eq_getElem hl]
  rfl
theorem rowSet {w : World} {k : Nat} {L : List Nat} {t : TypeId} (h : Row w k (u32s L) t) (i Z : Nat) {z : Int} (hz : z = (Z : Int)) : Row (w.setCell ⟨k, i, none⟩ (.int .u32 z)) k (u32s (L.set i Z)) t := by
  have e : (u32s L).setIfInBounds i (.int .u32 z) = u32s (L.set i Z) := by
    unfold u32s
    rw [List.setIfInBounds_toArray, List.map_set, hz]
  rw [← e]
  exact h.set i _
theorem add3_is {p q x : Int} {P Q : Nat} (hp : (P : Int) = p) (hq : (Q : Int) = q) (hx : 0 ≤ x) : (p + (q + x) % 4294967296) % 4294967296 = ((Obol.add3 P Q x.toNat : Nat) : Int) := by
  unfold Obol.add3; omega
theorem add2_is {p q : Int} {P Q : Nat} (hp : (P : Int) = p) (hq : (Q : Int) = q) : (p + q) % 4294967296 = ((Obol.add2 P Q : Nat) : Int) := by
  unfold Obol.add2; omega
theorem xor_eq {p q : Int} {P Q : Nat} (hp : (P : Int) = p) (hq : (Q : Int) = q) (h1 : P < 4294967296) (h2 : Q < 4294967296) : bits .xor .u32 p q = ((P ^^^ Q : Nat) : Int) := by
  subst hp hq; exact u32_xor_nat P Q h1 h2
theorem or_rot {x : Int} (n : Nat) (h0 : 0 ≤ x) (h1 : x ≤ 4294967295) : bits .or .u32 (x * 2 ^ (32 - n) % 4294967296) (x / 2 ^ n) = ((Obol.rotW n x.toNat : Nat) : Int) := by
  obtain ⟨X, rfl⟩ := Int.eq_ofNat_of_zero_le h0
  have e1 : (X : Int) * 2 ^ (32 - n) % 4294967296 = ((X * 2 ^ (32 - n) % 4294967296 : Nat) : Int) := by simp
  have e2 : (X : Int) / 2 ^ n = ((X / 2 ^ n : Nat) : Int) := by simp
  rw [e1, e2, u32_or_nat _ _ (Nat.mod_lt _ (by decide)) (Nat.lt_of_le_of_lt (Nat.div_le_self _ _) (by omega))]
  rfl
theorem rot16 (x : Int) (h0 : 0 ≤ x) (h1 : x ≤ 4294967295) (w : World) :
    Calls Tryd.prog 82 #[.int .u32 x, .int .i64 (-16)] w fun e w' => e = .returned (.int .u32 ((Obol.rotW 16 x.toNat : Nat) : Int)) ∧ w' = w := by
  have hs : bits .and .u64 (IntKind.u64.wrap (-16)) 31 = 16 := by decide +kernel
  have hr := Lib.hid (or_rot 16 h0 h1)
  go_enter Tryd.func82, Tryd.ntmps82
  go_wp2
  go_ret
  refine ⟨?_, rfl⟩
  rw [← hr.out]
  rfl
theorem rot12 (x : Int) (h0 : 0 ≤ x) (h1 : x ≤ 4294967295) (w : World) :
    Calls Tryd.prog 82 #[.int .u32 x, .int .i64 (-12)] w fun e w' => e = .returned (.int .u32 ((Obol.rotW 12 x.toNat : Nat) : Int)) ∧ w' = w := by
  have hs : bits .and .u64 (IntKind.u64.wrap (-12)) 31 = 20 := by decide +kernel
  have hr := Lib.hid (or_rot 12 h0 h1)
  go_enter Tryd.func82, Tryd.ntmps82
  go_wp2
  go_ret
  refine ⟨?_, rfl⟩
  rw [← hr.out]
  rfl
theorem rot8 (x : Int) (h0 : 0 ≤ x) (h1 : x ≤ 4294967295) (w : World) :
    Calls Tryd.prog 82 #[.int .u32 x, .int .i64 (-8)] w fun e w' => e = .returned (.int .u32 ((Obol.rotW 8 x.toNat : Nat) : Int)) ∧ w' = w := by
  have hs : bits .and .u64 (IntKind.u64.wrap (-8)) 31 = 24 := by decide +kernel
  have hr := Lib.hid (or_rot 8 h0 h1)
  go_enter Tryd.func82, Tryd.ntmps82
  go_wp2
  go_ret
  refine ⟨?_, rfl⟩
  rw [← hr.out]
  rfl
theorem rot7 (x : Int) (h0 : 0 ≤ x) (h1 : x ≤ 4294967295) (w : World) :
    Calls Tryd.prog 82 #[.int .u32 x, .int .i64 (-7)] w fun e w' => e = .returned (.int .u32 ((Obol.rotW 7 x.toNat : Nat) : Int)) ∧ w' = w := by
  have hs : bits .and .u64 (IntKind.u64.wrap (-7)) 31 = 25 := by decide +kernel
  have hr := Lib.hid (or_rot 7 h0 h1)
  go_enter Tryd.func82, Tryd.ntmps82
  go_wp2
  go_ret
  refine ⟨?_, rfl⟩
  rw [← hr.out]
  rfl

end Go.Proofs.YtiffendfojhapaaDoor
