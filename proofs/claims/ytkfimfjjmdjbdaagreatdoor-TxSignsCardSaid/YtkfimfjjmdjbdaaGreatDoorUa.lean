import Derived.Test.YtkfimfjjmdjbdaaGreatDoorProg
import Derived.WalkKit
import Derived.KernelRfl
import Derived.Deep.QuietTactic
import Derived.BigQuiet
import Derived.Deep.Draws
import Derived.WalkSpells
import Derived.WalkLawsBesides
import Derived.Laws.Bits64
import Derived.Laws.Bits64b
import Derived.Laws.BitsAllLaws
import Derived.Lib.Hide
import Derived.Lib.Mul64
import Derived.Lib.BitFns
import Derived.Lib.ItoaNum
import Derived.Lib.Strings
import Derived.Lib.Slices
import Derived.Lib.Small
import Derived.Lib.Walk
import Derived.Below
import Derived.Laws.Rows
import Derived.RowKit
import Derived.ProofKit
import Derived.OpenShut
import Derived.ChangeSlices
import Derived.SizedLaws
import Derived.Carry
import Derived.Deep.CutBlock
import Derived.Deep.LoopGhost
import Derived.Deep.DeepCutAuto
set_option linter.unusedVariables false
set_option linter.unusedSimpArgs false
set_option linter.unusedSectionVars false
/- Whole blocks of memory, and what lies below a bound. -/
namespace Go.Proofs.YtkfimfjjmdjbdaaGreatDoor
open Go.RowKit

theorem bDrewN {B : Nat} {a w : World} (h : Below B a w) (n : Nat) : Below B a (w.drewN n) := ⟨h.os, h.tape, h.output, h.size, h.block⟩
theorem bDrew {B : Nat} {a w : World} (h : Below B a w) : Below B a w.drew := ⟨h.os, h.tape, h.output, h.size, h.block⟩
theorem bSet {B : Nat} {a w : World} (h : Below B a w) {b o : Nat} (hp : B ≤ b) {u : Value} : Below B a (w.setCell ⟨b, o, none⟩ u) := h.setCell hp u
theorem bAlloc {w W : World} (h : Below w.heap.size w W) (o : Obj) : Below w.heap.size w (W.alloc o) := h.alloc h.size o

theorem bcell {W w1 : World} (hb : Below W.heap.size W w1) : (∀ b o, b < W.heap.size → w1.cell? ⟨b, o, none⟩ = W.cell? ⟨b, o, none⟩) ∧ (∀ b o, b < W.heap.size → w1.frozen? ⟨b, o, none⟩ = W.frozen? ⟨b, o, none⟩) :=
  ⟨fun b o h => hb.cell (p := ⟨b, o, none⟩) h, fun b o h => hb.frozen (p := ⟨b, o, none⟩) h⟩

/-! whole blocks -/
def Row (w : World) (b : Nat) (cs : Array Value) (t : TypeId) : Prop := w.heap[b]? = some (.cells cs t (0, 0))
theorem Row.lt {w : World} {b : Nat} {cs : Array Value} {t : TypeId} (h : Row w b cs t) : b < w.heap.size := (Array.getElem?_eq_some_iff.1 h).1
theorem Row.cell {w : World} {b : Nat} {cs : Array Value} {t : TypeId} (h : Row w b cs t) (j : Nat) {v : Value} (hj : cs[j]? = some v) : w.cell? ⟨b, j, none⟩ = some v := (cell_of_row w b j cs t (0, 0) h).trans hj
theorem Row.free {w : World} {b : Nat} {cs : Array Value} {t : TypeId} (h : Row w b cs t) (j : Nat) : w.frozen? ⟨b, j, none⟩ = false := frozen_of_row w b j cs t h
theorem Row.new (w : World) (cs : Array Value) (t : TypeId) : Row (w.alloc (.cells cs t)) w.heap.size cs t := heap_alloc_new w _
theorem Row.new1 (w : World) (o : Obj) (cs : Array Value) (t : TypeId) : Row ((w.alloc o).alloc (.cells cs t)) (w.heap.size + 1) cs t := by have h := Row.new (w.alloc o) cs t; rw [World.size_alloc] at h; exact h
theorem Row.alloc {w : World} {b : Nat} {cs : Array Value} {t : TypeId} (h : Row w b cs t) (o : Obj) : Row (w.alloc o) b cs t := (heap_alloc_old w o h.lt).trans h
theorem Row.below {B : Nat} {w w' : World} {b : Nat} {cs : Array Value} {t : TypeId} (h : Row w b cs t) (hb : Below B w w') (hB : b < B) : Row w' b cs t := (hb.block b hB).trans h
theorem Row.drewN {w : World} {b : Nat} {cs : Array Value} {t : TypeId} (h : Row w b cs t) (n : Nat) : Row (w.drewN n) b cs t := h
theorem Row.drew {w : World} {b : Nat} {cs : Array Value} {t : TypeId} (h : Row w b cs t) : Row w.drew b cs t := h
theorem Row.other {w : World} {b c o : Nat} {cs : Array Value} {t : TypeId} {v : Value} (h : Row w b cs t) (hne : b ≠ c) : Row (w.setCell ⟨c, o, none⟩ v) b cs t := (heap_setCell_other w ⟨c, o, none⟩ b v hne).trans h
theorem Row.set {w : World} {b : Nat} {cs : Array Value} {t : TypeId} (h : Row w b cs t) (i : Nat) (v : Value) : Row (w.setCell ⟨b, i, none⟩ v) b (cs.setIfInBounds i v) t := heap_setCell_same w b i cs t v h
theorem Row.set2 {w : World} {b : Nat} {a0 a1 v0 v1 : Value} {t : TypeId} (h : Row w b #[a0, a1] t) : Row ((w.setCell ⟨b, 0, none⟩ v0).setCell ⟨b, 1, none⟩ v1) b #[v0, v1] t := (h.set 0 v0).set 1 v1
theorem Row.set3 {w : World} {b : Nat} {a0 a1 a2 v0 v1 v2 : Value} {t : TypeId} (h : Row w b #[a0, a1, a2] t) : Row (((w.setCell ⟨b, 0, none⟩ v0).setCell ⟨b, 1, none⟩ v1).setCell ⟨b, 2, none⟩ v2) b #[v0, v1, v2] t := ((h.set 0 v0).set 1 v1).set 2 v2

theorem bThen {B : Nat} {w W w1 : World} (h : Below B w W) (hb : Below W.heap.size W w1) (hB : B ≤ W.heap.size) : Below B w w1 := h.trans (hb.mono hB)
theorem Row.newAt {W : World} {b : Nat} (cs : Array Value) (t : TypeId) (h : W.heap.size = b) : Row (W.alloc (.cells cs t)) b cs t := by subst h; exact Row.new _ _ _

end Go.Proofs.YtkfimfjjmdjbdaaGreatDoor
/- Long division, a digit at a time: what the guess of a digit comes to. Y = yn1 B + yn0; u B + d is divided by Y. -/
namespace Obol

theorem guess_le {B Y u d yn1 yn0 : Nat} (hY : Y = yn1 * B + yn0) (h1 : 0 < yn1) (hd : d < B) : (u * B + d) / Y ≤ u / yn1 := by
  rw [Nat.le_div_iff_mul_le h1]
  have h2 : (u * B + d) / Y * Y ≤ u * B + d := Nat.div_mul_le_self _ _
  generalize (u * B + d) / Y = q at *
  rw [hY, Nat.mul_add, ← Nat.mul_assoc] at h2
  refine Nat.le_of_not_lt fun hlt => ?_
  have h3 : (u + 1) * B ≤ q * yn1 * B := Nat.mul_le_mul_right _ hlt
  rw [Nat.succ_mul] at h3
  have : 0 ≤ q * yn0 := Nat.zero_le _
  omega

theorem guess_big {B Y u d yn1 yn0 q r : Nat} (hY : Y = yn1 * B + yn0) (hYp : 0 < Y) (hq : q * yn1 + r = u) (h : B * r + d < q * yn0) : (u * B + d) / Y < q := by
  rw [Nat.div_lt_iff_lt_mul hYp, hY, Nat.mul_add, ← Nat.mul_assoc, ← hq, Nat.add_mul, Nat.mul_comm r B]
  omega

theorem guess_fits {B Y u d yn1 yn0 q r : Nat} (hY : Y = yn1 * B + yn0) (hYp : 0 < Y) (hq : q * yn1 + r = u) (h : q * yn0 ≤ B * r + d) : q ≤ (u * B + d) / Y := by
  rw [Nat.le_div_iff_mul_le hYp, hY, Nat.mul_add, ← Nat.mul_assoc, ← hq, Nat.add_mul, Nat.mul_comm r B]
  omega

theorem digit_lt {B Y u d : Nat} (hd : d < B) (hu : u < Y) : (u * B + d) / Y < B := by
  rw [Nat.div_lt_iff_lt_mul (by omega)]
  have : (u + 1) * B ≤ Y * B := Nat.mul_le_mul_right _ hu
  rw [Nat.succ_mul] at this
  rw [Nat.mul_comm B]
  omega

theorem guess_over {B d yn0 q r : Nat} (h0 : yn0 < B) (hq : q ≤ B) (hr : B ≤ r) : q * yn0 ≤ B * r + d := by
  have h1 : q * yn0 ≤ B * yn0 := Nat.mul_le_mul_right _ hq
  have h2 : B * yn0 ≤ B * r := Nat.mul_le_mul_left _ (by omega)
  omega

theorem guess_near {B Y u yn1 yn0 : Nat} (hY : Y = yn1 * B + yn0) (h0 : yn0 < B) (h2 : B ≤ 2 * yn1) (hu : u < Y) : u / yn1 ≤ B + 1 := by
  have h1 : 0 < yn1 := by omega
  refine Nat.le_of_lt_succ ?_
  rw [Nat.div_lt_iff_lt_mul h1, Nat.succ_mul, Nat.add_mul, Nat.one_mul, Nat.mul_comm B]
  omega

/-- The whole: two digits, one behind the other. -/
theorem two_digits {B Y u d1 d0 : Nat} :
    ((u * B + d1) % Y * B + d0) % Y = ((u * B + d1) * B + d0) % Y := by
  rw [Nat.add_mod, Nat.mul_mod, Nat.mod_mod, ← Nat.mul_mod, ← Nat.add_mod]

end Obol
/- Walks: math/bits: Mul64, Len64, LeadingZeros64. -/
namespace Go.Proofs.YtkfimfjjmdjbdaaGreatDoor
open Go.RowKit

theorem ret_u64 {a b : Int} (h : a = b) : Ending.returned (.int .u64 a) = .returned (.int .u64 b) := by rw [h]

/-- A callee that leaves the world alone, met in a region that draws its order. -/
theorem q_same {P : Program} {f : FuncId} {args : Array Value} {w : World} {n : Nat} {v : Value} (h : Calls P f args (w.drewN n) fun e w' => e = .returned v ∧ w.drewN n = w') :
    Calls P f args (w.drewN n) fun e w'' => e = .returned v ∧ ∃ m, w'' = w.drewN m := Calls.quiet_of_same (h.mono fun _ _ h => ⟨h.1, h.2.symm⟩)

theorem quiet_add {P : Program} {f : FuncId} {args : Array Value} {w : World} {a n : Nat} {v : Value} (h : Calls P f args (w.drewN (a + n)) fun e w' => e = .returned v ∧ ∃ m, w' = (w.drewN (a + n)).drewN m) :
    Calls P f args (w.drewN (a + n)) fun e w'' => e = .returned v ∧ ∃ m, w'' = w.drewN (a + m) := h.mono fun _ _ ⟨he, m, hm⟩ => ⟨he, n + m, by rw [hm, World.drewN_drewN, Nat.add_assoc]⟩

theorem maskN (a : Nat) (ha : a < 18446744073709551616) : bits .and .u64 (a : Int) 4294967295 = ((a % 4294967296 : Nat) : Int) := by
  have h := bits_and_u64_nat a 4294967295 ha (by omega)
  have e : a &&& 4294967295 = a % 4294967296 := Nat.and_two_pow_sub_one_eq_mod a 32
  rw [e] at h
  exact h
theorem divN (a : Nat) : (a : Int) / 4294967296 = ((a / 4294967296 : Nat) : Int) := by omega
theorem mulN (a b : Nat) : (a : Int) * (b : Int) = ((a * b : Nat) : Int) := (Int.natCast_mul a b).symm
theorem addN (a b : Nat) : (a : Int) + (b : Int) = ((a + b : Nat) : Int) := (Int.natCast_add a b).symm
theorem wrapN (a : Nat) (ha : a < 18446744073709551616) : IntKind.u64.wrap (a : Int) = (a : Int) := by rw [IntKind.wrap_u64]; omega
theorem wrapM (a : Nat) : IntKind.u64.wrap (a : Int) = ((a % 18446744073709551616 : Nat) : Int) := by rw [IntKind.wrap_u64]; omega

theorem mul64_any (x y : Nat) (hx : x < 18446744073709551616) (hy : y < 18446744073709551616) (w : World) :
    Calls Tryz.prog 109 #[.int .u64 (x : Int), .int .u64 (y : Int)] w fun e w' =>
      e = .returned (.tuple #[.int .u64 ((x * y / 18446744073709551616 : Nat) : Int), .int .u64 ((x * y % 18446744073709551616 : Nat) : Int)]) ∧ w = w' := by
  obtain ⟨bd, bt, bw, hhi⟩ := Lib.mul64_hi x y hx hy
  have ba := Lib.half_mul_le (a := x / 4294967296) (b := y / 4294967296) (by omega) (by omega)
  have bb := Lib.half_mul_le (a := x / 4294967296) (b := y % 4294967296) (by omega) (by omega)
  have bc := Lib.half_mul_le (a := x % 4294967296) (b := y / 4294967296) (by omega) (by omega)
  have ba' : x / 4294967296 * (y / 4294967296) < 18446744073709551616 := by omega
  have bb' : x / 4294967296 * (y % 4294967296) < 18446744073709551616 := by omega
  have bc' : x % 4294967296 * (y / 4294967296) < 18446744073709551616 := by omega
  have bh1 : x / 4294967296 * (y / 4294967296) + (x / 4294967296 * (y % 4294967296) + x % 4294967296 * (y % 4294967296) / 4294967296) / 4294967296 < 18446744073709551616 := by omega
  have bh : x / 4294967296 * (y / 4294967296) + (x / 4294967296 * (y % 4294967296) + x % 4294967296 * (y % 4294967296) / 4294967296) / 4294967296 + ((x / 4294967296 * (y % 4294967296) + x % 4294967296 * (y % 4294967296) / 4294967296) % 4294967296 + x % 4294967296 * (y / 4294967296)) / 4294967296 < 18446744073709551616 := by omega
  have Hhi := Lib.hid hhi
  clear hhi
  go_enter Tryz.func109, Tryz.ntmps109
  go_wp2
  simp only [maskN x hx, maskN y hy, divN, mulN, addN, wrapN _ bd, wrapN _ bb', wrapN _ bt, maskN _ bt, wrapN _ bc', wrapN _ bw, wrapN _ ba', wrapN _ bh1, wrapN _ bh, wrapM (x * y)]
  rw [Hhi.out]
  go_ret2
  exact ⟨rfl, rfl⟩

theorem len8_at (x : Int) (h0 : 0 ≤ x) (h1 : x ≤ 255) {h : x.toNat < Lib.len8tab.size} : ((Lib.len8tab[x.toNat]'h).toNat : Int) = (Lib.bitLen x.toNat : Int) := by
  have e := Lib.len8_of x h0 h1
  unfold Lib.len8 at e
  rw [getElem?_pos Lib.len8tab x.toNat h, Option.getD_some] at e
  exact e
theorem len_arm (K : Int) (D : Nat) (x y : Int) (k0 : 0 ≤ K) (k1 : K ≤ 56) (h0 : 0 ≤ y) (h1 : y ≤ 255) (he : y.toNat = x.toNat / D) (hs : (Lib.bitLen x.toNat : Int) = K + Lib.bitLen (x.toNat / D)) {h : y.toNat < Lib.len8tab.size} :
    wrap64 (K + wrap64 ((Lib.len8tab[y.toNat]'h).toNat : Int)) = (Lib.bitLen x.toNat : Int) := by
  have l := Lib.bitLen_le8' y h0 h1
  rw [len8_at y h0 h1, he, hs]
  rw [he] at l
  unfold wrap64
  omega
theorem len_arm0 (x : Int) (h0 : 0 ≤ x) (h1 : x ≤ 255) {h : x.toNat < Lib.len8tab.size} : wrap64 (wrap64 ((Lib.len8tab[x.toNat]'h).toNat : Int)) = (Lib.bitLen x.toNat : Int) := by
  have l := Lib.bitLen_le8' x h0 h1
  rw [len8_at x h0 h1]
  unfold wrap64
  omega

set_option maxHeartbeats 4000000 in
set_option maxRecDepth 100000 in
theorem len64_any (x : Int) (w : World) (h0 : 0 ≤ x) (h1 : x ≤ 18446744073709551615) :
    Calls Tryz.prog 118 #[.int .u64 x] w fun e w' => e = .returned (.int .i64 (Lib.bitLen x.toNat)) ∧ w = w' := by
  have hsz := Lib.len8tab_size
  go_enter Tryz.func118, Tryz.ntmps118
  go_wp2
  all_goals (go_ret; refine ⟨congrArg Ending.returned (congrArg (Value.int IntKind.i64) ?_), rfl⟩)
  · exact len_arm 56 72057594037927936 x _ (by omega) (by omega) (by omega) (by omega) (by omega) (by have := Lib.bitLen_shift56 x.toNat (by omega) (by omega); omega)
  · exact len_arm 48 281474976710656 x _ (by omega) (by omega) (by omega) (by omega) (by omega) (by have := Lib.bitLen_shift48 x.toNat (by omega) (by omega); omega)
  · exact len_arm 40 1099511627776 x _ (by omega) (by omega) (by omega) (by omega) (by omega) (by have := Lib.bitLen_shift40 x.toNat (by omega) (by omega); omega)
  · exact len_arm 32 4294967296 x _ (by omega) (by omega) (by omega) (by omega) (by omega) (by have := Lib.bitLen_shift32 x.toNat (by omega) (by omega); omega)
  · exact len_arm 24 16777216 x _ (by omega) (by omega) (by omega) (by omega) (by omega) (by have := Lib.bitLen_shift24 x.toNat (by omega) (by omega); omega)
  · exact len_arm 16 65536 x _ (by omega) (by omega) (by omega) (by omega) (by omega) (by have := Lib.bitLen_shift16 x.toNat (by omega) (by omega); omega)
  · exact len_arm 8 256 x _ (by omega) (by omega) (by omega) (by omega) (by omega) (by have := Lib.bitLen_shift8 x.toNat (by omega) (by omega); omega)
  · exact len_arm0 x (by omega) (by omega)

theorem bitLen_le64 (x : Nat) (h : x < 18446744073709551616) : Lib.bitLen x ≤ 64 := Lib.bitLen_le x 64 (by omega) (by simpa using h)

theorem lz64_any (x : Nat) (w : World) (h1 : x < 18446744073709551616) :
    Calls Tryz.prog 117 #[.int .u64 (x : Int)] w fun e w' => e = .returned (.int .i64 ((64 - Lib.bitLen x : Nat) : Int)) ∧ w = w' := by
  have l := bitLen_le64 x h1
  have hx : ((x : Int)).toNat = x := Int.toNat_natCast x
  have HX := Lib.hid hx
  clear hx
  go_enter Tryz.func117, Tryz.ntmps117
  go_wp2_with (go_at_call 118; refine (len64_any _ _ (by omega) (by omega)).mono ?_; rintro e w' ⟨rfl, rfl⟩)
  go_ret
  refine ⟨congrArg Ending.returned (congrArg (Value.int IntKind.i64) ?_), rfl⟩
  omega

end Go.Proofs.YtkfimfjjmdjbdaaGreatDoor
/- Bytes in memory. -/
namespace Obol
theorem or_low (a c : Nat) (h : c < 256) : a * 256 ||| c = a * 256 + c := by
  have := Nat.two_pow_add_eq_or_of_lt (i := 8) (b := c) (by omega) a
  rw [show (2 : Nat) ^ 8 = 256 from rfl] at this
  rw [Nat.mul_comm a 256, ← this]
end Obol
namespace Go.Proofs.YtkfimfjjmdjbdaaGreatDoor
open Go.RowKit

/-- So many bytes. -/
structure B8 (n : Nat) (L : List Nat) : Prop where
  len : L.length = n
  lt : ∀ i, L.getD i 0 < 256
theorem B8.of {L : List Nat} (h : ∀ x ∈ L, x < 256) : B8 L.length L := ⟨rfl, fun i => by
  rw [List.getD_eq_getElem?_getD]
  cases h' : L[i]? with
  | none => exact Nat.zero_lt_of_lt (show 0 < 256 by decide)
  | some x => exact h x (List.mem_of_getElem? h')⟩
theorem B8.all {n : Nat} {L : List Nat} (h : B8 n L) : ∀ x ∈ L, x < 256 := fun x hx => by
  obtain ⟨i, hi, rfl⟩ := List.getElem_of_mem hx
  have := h.lt i
  rwa [List.getD_eq_getElem?_getD, List.getElem?_eq_getElem hi] at this

/-- The cells from o on are these bytes. -/
def BL (w : World) (b o : Nat) (L : List Nat) : Prop := ∀ i, i < L.length → w.cell? ⟨b, o + i, none⟩ = some (.int .u8 ((L.getD i 0 : Nat) : Int))
theorem BL.lt {w : World} {b o : Nat} {L : List Nat} (h : BL w b o L) (h0 : 0 < L.length) : b < w.heap.size := World.block_lt_of_cell? w ⟨b, o + 0, none⟩ (h 0 h0)
theorem BL.below {B : Nat} {w w' : World} {b o : Nat} {L : List Nat} (h : BL w b o L) (hb : Below B w w') (hB : b < B) : BL w' b o L := fun i hi => (hb.cell (p := ⟨b, o + i, none⟩) hB).trans (h i hi)
theorem BL.at {w : World} {b o : Nat} {L : List Nat} {n : Nat} (h : BL w b o L) (H : B8 n L) {i : Int} (h0 : 0 ≤ i) (h1 : i < n) :
    ∃ v : Int, w.cell? ⟨b, o + i.toNat, none⟩ = some (.int .u8 v) ∧ v = ((L.getD i.toNat 0 : Nat) : Int) ∧ 0 ≤ v ∧ v ≤ 255 :=
  ⟨_, h i.toNat (by rw [H.len]; omega), rfl, by omega, by have := H.lt i.toNat; omega⟩

theorem or_byte {n c : Int} (h0 : 0 ≤ n) (h1 : n < 72057594037927936) (c0 : 0 ≤ c) (c1 : c ≤ 255) : bits .or .u64 (n * 256) c = 256 * n + c := by
  obtain ⟨N, rfl⟩ := Int.eq_ofNat_of_zero_le h0
  obtain ⟨C, rfl⟩ := Int.eq_ofNat_of_zero_le c0
  have e : ((N : Int) * 256) = ((N * 256 : Nat) : Int) := by omega
  rw [e, u64_or_nat _ _ (by omega) (by omega), Obol.or_low _ _ (by omega)]
  omega
theorem and_63 {n : Int} (h0 : 0 ≤ n) (h1 : n ≤ 18446744073709551615) : bits .and .u64 n 9223372036854775807 = n % 9223372036854775808 := by
  obtain ⟨N, rfl⟩ := Int.eq_ofNat_of_zero_le h0
  have e : (9223372036854775807 : Int) = ((2 ^ 63 - 1 : Nat) : Int) := by decide
  rw [e, u64_and_nat _ _ (by omega) (by decide), Nat.and_two_pow_sub_one_eq_mod]
  omega
theorem and_1 {n : Int} (h0 : 0 ≤ n) (h1 : n ≤ 18446744073709551615) : bits .and .u64 n 1 = n % 2 := by
  obtain ⟨N, rfl⟩ := Int.eq_ofNat_of_zero_le h0
  have e : (1 : Int) = ((2 ^ 1 - 1 : Nat) : Int) := by decide
  rw [e, u64_and_nat _ _ (by omega) (by decide), Nat.and_two_pow_sub_one_eq_mod]
  omega

end Go.Proofs.YtkfimfjjmdjbdaaGreatDoor
/- An argument of type []byte, opened once. -/
namespace Go.Proofs.YtkfimfjjmdjbdaaGreatDoor
open Go.ChangeShapes Go.WideShapes Go.ChangeAt Go.RowKit

theorem cellsU8 : Tryz.prog.cellsOf 5 = 1 := by kernel_rfl
theorem laidOutA : laidOutB Tryz.prog = true := by kernel_rfl
theorem readB : Tryz.prog.readableRec 26 = true := of_decide_eq_true (by kernel_rfl)

/-- Its bytes, nil or not. -/
theorem viewB {H : Type} {enc : TypeId × Value → H} {W : World} {a0 : Option Addr} {len cap : Nat} {d : DataW H} {p : List MemPlace}
    (h : DataW.Trod enc Tryz.prog W 0 (fun _ => true) true 26 (.slice a0 len cap) d p) :
    ∃ L : List Nat, B8 len L ∧ len ≤ cap ∧ cap ≤ 9223372036854775807 ∧ (a0 = none → len = 0 ∧ cap = 0) ∧ (0 < len → ∃ b o, a0 = some ⟨b, o, none⟩ ∧ BL W b o L) := by
  obtain ⟨fuel, hf⟩ := h
  rcases open_ints Tryz.underlying26 Tryz.underlying5 cellsU8 hf with ⟨hcs, hx⟩ | ⟨a, len', cap', zs, hcs, _, hl, hm, hz, hx, hcell, hwz⟩
  · simp [Value.cells] at hcs
    obtain ⟨rfl, rfl, rfl⟩ := hcs
    exact ⟨[], ⟨rfl, fun i => by simp⟩, Nat.le_refl _, by omega, fun _ => ⟨rfl, rfl⟩, fun h => by omega⟩
  · simp [Value.cells] at hcs
    obtain ⟨rfl, rfl, rfl⟩ := hcs
    simp only [if_true] at hz
    have hw : ∀ n ∈ zs, 0 ≤ n ∧ n ≤ 255 := fun n hn => by have := bounds_u8 (hwz n hn); omega
    have hL : ((zs.take len).map Int.toNat).length = len := by simp; omega
    refine ⟨(zs.take len).map Int.toNat, ⟨hL, fun i => ?_⟩, hl, by unfold maxLen at hm; omega, (fun h => by cases h), fun h0 => ?_⟩
    · rw [List.getD_eq_getElem?_getD, List.getElem?_map]
      cases hi : (zs.take len)[i]? with
      | none => decide
      | some x =>
        have := hw x (List.mem_of_mem_take (List.mem_of_getElem? hi))
        simp
        omega
    · obtain ⟨b, off, spot⟩ := a
      have hspot : spot = none := by simpa [Addr.add] using World.cell?_spot (hcell 0 (by omega))
      subst hspot
      refine ⟨b, off, rfl, fun i hi => ?_⟩
      rw [hL] at hi
      have hc := hcell i (by omega)
      rw [add_plain] at hc
      rw [hc, List.getD_eq_getElem?_getD, List.getD_eq_getElem?_getD, List.getElem?_map, List.getElem?_take, if_pos hi]
      have hi2 : i < zs.length := by omega
      rw [List.getElem?_eq_getElem hi2]
      have := hw _ (List.getElem_mem hi2)
      simp
      omega

theorem bytesU8 : Tryz.prog.bytesOf 5 = 1 := by kernel_rfl
theorem viewSize {H : Type} {enc : TypeId × Value → H} {W : World} {a0 : Option Addr} {len cap : Nat} {d : DataW H} {p : List MemPlace}
    (h : DataW.Trod enc Tryz.prog W 0 (fun _ => true) true 26 (.slice a0 len cap) d p) : (d = .nil ∧ cap = 0) ∨ ∃ es sp, d = .slice es sp ∧ es.length + sp.length = cap := by
  obtain ⟨fuel, hf⟩ := h
  rcases open_ints Tryz.underlying26 Tryz.underlying5 cellsU8 hf with ⟨hcs, hx⟩ | ⟨a, len', cap', zs, hcs, _, hl, hm, hz, hx, hcell, hwz⟩
  · simp [Value.cells] at hcs
    simp only [Prod.mk.injEq] at hx
    exact Or.inl ⟨hx.1, hcs.2.2⟩
  · simp [Value.cells] at hcs
    obtain ⟨rfl, rfl, rfl⟩ := hcs
    simp only [Prod.mk.injEq] at hx
    simp only [if_true] at hz
    exact Or.inr ⟨_, _, hx.1, by simp [lits]; omega⟩

end Go.Proofs.YtkfimfjjmdjbdaaGreatDoor
/- Walks: math/bits: Div64. -/
namespace Go.Proofs.YtkfimfjjmdjbdaaGreatDoor
open Go.RowKit

theorem join64 (a b s : Nat) (ha : a % 2 ^ s = 0) (hb : b < 2 ^ s) (h : a + b < 18446744073709551616) : bits .or .u64 (a : Int) (b : Int) = ((a + b : Nat) : Int) := by
  rw [u64_or_nat a b (by omega) (by omega), nat_join s a b ha hb]
theorem wrap3 (a b c r : Int) (h : a + b - c = r) (h0 : 0 ≤ r) (h1 : r < 18446744073709551616) : IntKind.u64.wrap (IntKind.u64.wrap (IntKind.u64.wrap a + b) - IntKind.u64.wrap c) = r := by
  simp only [IntKind.wrap_u64]
  omega

/-- What is shifted, in numbers. -/
theorem shifted {hi lo y s : Nat} (hs : s ≤ 63) (hl : lo < 18446744073709551616) (hy : hi < y) (hY : y * 2 ^ s < 18446744073709551616) :
    ∃ U L : Nat, bits .or .u64 (IntKind.u64.wrap ((hi : Int) * 2 ^ s)) ((lo : Int) / 2 ^ (64 - s)) = (U : Int) ∧ IntKind.u64.wrap ((lo : Int) * 2 ^ s) = (L : Int) ∧ L < 18446744073709551616 ∧ U < y * 2 ^ s ∧
      (hi * 18446744073709551616 + lo) * 2 ^ s = U * 18446744073709551616 + L := by
  have e64 : 2 ^ (64 - s) * 2 ^ s = 18446744073709551616 := by rw [← Nat.pow_add, show 64 - s + s = 64 by omega]
  have hp : 0 < 2 ^ s := Nat.pow_pos (by omega)
  have h2 : lo / 2 ^ (64 - s) < 2 ^ s := by
    rw [Nat.div_lt_iff_lt_mul (Nat.pow_pos (by omega)), Nat.mul_comm, e64]
    exact hl
  have h3 : (hi + 1) * 2 ^ s ≤ y * 2 ^ s := Nat.mul_le_mul_right _ hy
  rw [Nat.succ_mul] at h3
  refine ⟨hi * 2 ^ s + lo / 2 ^ (64 - s), lo * 2 ^ s % 18446744073709551616, ?_, ?_, Nat.mod_lt _ (by omega), by omega, ?_⟩
  · have e1 : (hi : Int) * 2 ^ s = ((hi * 2 ^ s : Nat) : Int) := by rw [Int.natCast_mul, Int.natCast_pow]; rfl
    have e2 : (lo : Int) / 2 ^ (64 - s) = ((lo / 2 ^ (64 - s) : Nat) : Int) := by rw [Int.natCast_ediv, Int.natCast_pow]; rfl
    rw [e1, e2, wrapN _ (by omega)]
    exact join64 _ _ s (Nat.mul_mod_left _ _) h2 (by omega)
  · have e1 : (lo : Int) * 2 ^ s = ((lo * 2 ^ s : Nat) : Int) := by rw [Int.natCast_mul, Int.natCast_pow]; rfl
    rw [e1, wrapM]
  · have e3 : lo * 2 ^ s / 18446744073709551616 = lo / 2 ^ (64 - s) := by
      rw [← e64, Nat.mul_div_mul_right _ _ hp]
    have e4 := Nat.div_add_mod (lo * 2 ^ s) 18446744073709551616
    rw [e3] at e4
    rw [Nat.add_mul, Nat.mul_right_comm]
    generalize hi * 2 ^ s = a at *
    generalize lo / 2 ^ (64 - s) = b at *
    generalize lo * 2 ^ s = c at *
    omega

/-- What holds of a guess q and its rest r. -/
structure Guess (A B D T U Y : Nat) (q r : Int) : Prop where
  q0 : 0 ≤ q
  r0 : 0 ≤ r
  eq : q.toNat * A + r.toNat = U
  le : T ≤ q.toNat
  q1 : q.toNat ≤ 4294967297
  hY : Y = A * 4294967296 + B
  hYp : 0 < Y
  hT : T = (U * 4294967296 + D) / Y
  hB : B < 4294967296
  hD : D < 4294967296

theorem nat_mul_wrap {q : Int} {B : Nat} (h0 : 0 ≤ q) (h1 : q < 4294967296) (hB : B < 4294967296) : IntKind.u64.wrap (q * (B : Int)) = ((q.toNat * B : Nat) : Int) := by
  obtain ⟨n, rfl⟩ := Int.eq_ofNat_of_zero_le h0
  have hle : n * B ≤ 4294967295 * 4294967295 := Nat.mul_le_mul (by omega) (by omega)
  rw [mulN, wrapN _ (by omega), Int.toNat_natCast]
theorem nat_sum_wrap {r : Int} {D : Nat} (h0 : 0 ≤ r) (h1 : r < 4294967296) (hD : D < 4294967296) : IntKind.u64.wrap (4294967296 * r + (D : Int)) = ((4294967296 * r.toNat + D : Nat) : Int) := by
  rw [IntKind.wrap_u64]
  omega

theorem Guess.big {A B D T U Y : Nat} {q r : Int} (h : Guess A B D T U Y q r) (hr : r < 4294967296) (hT : T < 4294967296)
    (hor : 4294967296 ≤ q ∨ (q < 4294967296 ∧ IntKind.u64.wrap (4294967296 * r + (D : Int)) < IntKind.u64.wrap (q * (B : Int)))) : T < q.toNat := by
  rcases hor with h1 | ⟨h1, h2⟩
  · omega
  · rw [nat_mul_wrap h.q0 h1 h.hB, nat_sum_wrap h.r0 hr h.hD] at h2
    rw [h.hT]
    exact Obol.guess_big h.hY h.hYp h.eq (by omega)

theorem Guess.fits {A B D T U Y : Nat} {q r : Int} (h : Guess A B D T U Y q r) (hr : r < 4294967296)
    (h1 : q < 4294967296) (h2 : IntKind.u64.wrap (q * (B : Int)) ≤ IntKind.u64.wrap (4294967296 * r + (D : Int))) : q = (T : Int) := by
  rw [nat_mul_wrap h.q0 h1 h.hB, nat_sum_wrap h.r0 hr h.hD] at h2
  have := Obol.guess_fits h.hY h.hYp h.eq (show q.toNat * B ≤ 4294967296 * r.toNat + D by omega)
  rw [← h.hT] at this
  have := h.le
  have := h.q0
  omega

theorem Guess.next {A B D T U Y : Nat} {q r : Int} (h : Guess A B D T U Y q r) (hlt : T < q.toNat) : Guess A B D T U Y (q - 1) (r + (A : Int)) := by
  have h0 := h.q0
  have h1 := h.r0
  have h2 := h.q1
  have h3 := h.eq
  have e1 : (q - 1).toNat + 1 = q.toNat := by omega
  have e2 : (r + (A : Int)).toNat = r.toNat + A := by omega
  refine ⟨by omega, by omega, ?_, by omega, by omega, h.hY, h.hYp, h.hT, h.hB, h.hD⟩
  rw [← e1, Nat.succ_mul] at h3
  omega

theorem Guess.over {A B D T U Y : Nat} {q r : Int} (h : Guess A B D T U Y q r) (hr : 4294967296 ≤ r) (hq : q.toNat ≤ 4294967296) : q = (T : Int) := by
  have := Obol.guess_fits h.hY h.hYp h.eq (Obol.guess_over (d := D) h.hB hq (by omega))
  rw [← h.hT] at this
  have := h.le
  have := h.q0
  omega

theorem wrap_pred {q : Int} (h0 : 1 ≤ q) (h1 : q ≤ 4294967297) : IntKind.u64.wrap (q - 1) = q - 1 := by rw [IntKind.wrap_u64]; omega

set_option maxRecDepth 100000 in
set_option maxHeartbeats 2000000 in
theorem div64_any (hi lo y s Y : Nat) (w : World) (h0 : 1 ≤ hi) (hy : hi < y) (hyl : y < 18446744073709551616) (hl : lo < 18446744073709551616) (hs : s ≤ 63) (Hs : Hid (64 - Lib.bitLen y = s))
    (HY : Hid (Y = y * 2 ^ s)) (hY1 : 9223372036854775808 ≤ Y) (hY2 : Y < 18446744073709551616) :
    Calls Tryz.prog 110 #[.int .u64 (hi : Int), .int .u64 (lo : Int), .int .u64 (y : Int)] w fun e w' =>
      ∃ q : Int, e = .returned (.tuple #[.int .u64 q, .int .u64 (((hi * 18446744073709551616 + lo) % y : Nat) : Int)]) ∧ w = w' := by
  have hz := lz64_any y w hyl
  rw [Hs.out] at hz
  have Hz := Lib.hid hz
  clear hz
  have f1 : ((y : Int) == 0) = false := by rw [beq_eq_false_iff_ne]; omega
  have f2 : (hi : Int) < (y : Int) := by omega
  have f3 : ((hi : Int) == 0) = false := by rw [beq_eq_false_iff_ne]; omega
  obtain ⟨U, L, r4, r5, hL, hU, heq⟩ := shifted hs hl hy (HY.out ▸ hY2)
  have Heq := Lib.hid heq
  clear heq
  rw [← HY.out] at hU
  have r1 : IntKind.u64.wrap ((y : Int) * 2 ^ s) = (Y : Int) := by
    have e1 : (y : Int) * 2 ^ s = ((y * 2 ^ s : Nat) : Int) := by rw [Int.natCast_mul, Int.natCast_pow]; rfl
    rw [e1, ← HY.out, wrapN _ hY2]
  obtain ⟨A, HA⟩ : ∃ A : Nat, Hid (A = Y / 4294967296) := ⟨_, rfl⟩
  obtain ⟨B0, HB⟩ : ∃ B : Nat, Hid (B = Y % 4294967296) := ⟨_, rfl⟩
  obtain ⟨D1, HD1⟩ : ∃ B : Nat, Hid (B = L / 4294967296) := ⟨_, rfl⟩
  obtain ⟨D0, HD0⟩ : ∃ B : Nat, Hid (B = L % 4294967296) := ⟨_, rfl⟩
  have a1 : 2147483648 ≤ A ∧ A < 4294967296 := by have := HA.out; omega
  have a2 : B0 < 4294967296 := by have := HB.out; omega
  have a3 : D1 < 4294967296 := by have := HD1.out; omega
  have a4 : D0 < 4294967296 := by have := HD0.out; omega
  have HYY : Hid (Y = A * 4294967296 + B0) := by have h1 := HA.out; have h2 := HB.out; show Y = _; omega
  have HL2 : Hid (L = D1 * 4294967296 + D0) := by have h1 := HD1.out; have h2 := HD0.out; show L = _; omega
  obtain ⟨Q, HQ⟩ : ∃ B : Nat, Hid (B = U / A) := ⟨_, rfl⟩
  obtain ⟨RH, HR⟩ : ∃ B : Nat, Hid (B = U % A) := ⟨_, rfl⟩
  have HQR : Hid (Q * A + RH = U) := by have := Nat.div_add_mod U A; rw [Nat.mul_comm, ← HQ.out, ← HR.out] at this; exact this
  have q1 : Q ≤ 4294967297 := by rw [HQ.out]; exact Obol.guess_near HYY.out a2 (by omega) hU
  have q2 : RH < 4294967296 := by have := Nat.mod_lt U (show 0 < A by omega); rw [← HR.out] at this; omega
  have hYp : 0 < Y := by omega
  obtain ⟨T1, HT1⟩ : ∃ B : Nat, Hid (B = (U * 4294967296 + D1) / Y) := ⟨_, rfl⟩
  have t1 : T1 < 4294967296 := by rw [HT1.out]; exact Obol.digit_lt a3 hU
  have t2 : T1 ≤ Q := by rw [HT1.out, HQ.out]; exact Obol.guess_le HYY.out (by omega) a3
  -- the walk's numbers, as whole numbers with names of their own
  obtain ⟨Ai, hA0⟩ : ∃ z : Int, z = (A : Int) := ⟨_, rfl⟩
  obtain ⟨Bi, hB0⟩ : ∃ z : Int, z = (B0 : Int) := ⟨_, rfl⟩
  obtain ⟨D1i, hD10⟩ : ∃ z : Int, z = (D1 : Int) := ⟨_, rfl⟩
  obtain ⟨D0i, hD00⟩ : ∃ z : Int, z = (D0 : Int) := ⟨_, rfl⟩
  obtain ⟨Ui, hU0⟩ : ∃ z : Int, z = (U : Int) := ⟨_, rfl⟩
  obtain ⟨Yi, hY0⟩ : ∃ z : Int, z = (Y : Int) := ⟨_, rfl⟩
  obtain ⟨Li, hL0⟩ : ∃ z : Int, z = (L : Int) := ⟨_, rfl⟩
  obtain ⟨Qi, hQ0⟩ : ∃ z : Int, z = (Q : Int) := ⟨_, rfl⟩
  obtain ⟨Ri, hR0⟩ : ∃ z : Int, z = (RH : Int) := ⟨_, rfl⟩
  -- the second digit's
  obtain ⟨V, HV⟩ : ∃ B : Nat, Hid (B = (U * 4294967296 + D1) % Y) := ⟨_, rfl⟩
  have v1 : V < Y := by rw [HV.out]; exact Nat.mod_lt _ hYp
  obtain ⟨Q2, HQ2⟩ : ∃ B : Nat, Hid (B = V / A) := ⟨_, rfl⟩
  obtain ⟨R2, HR2⟩ : ∃ B : Nat, Hid (B = V % A) := ⟨_, rfl⟩
  have HQR2 : Hid (Q2 * A + R2 = V) := by have := Nat.div_add_mod V A; rw [Nat.mul_comm, ← HQ2.out, ← HR2.out] at this; exact this
  have q3 : Q2 ≤ 4294967297 := by rw [HQ2.out]; exact Obol.guess_near HYY.out a2 (by omega) v1
  have q4 : R2 < 4294967296 := by have := Nat.mod_lt V (show 0 < A by omega); rw [← HR2.out] at this; omega
  obtain ⟨T0, HT0⟩ : ∃ B : Nat, Hid (B = (V * 4294967296 + D0) / Y) := ⟨_, rfl⟩
  have t3 : T0 < 4294967296 := by rw [HT0.out]; exact Obol.digit_lt a4 v1
  have t4 : T0 ≤ Q2 := by rw [HT0.out, HQ2.out]; exact Obol.guess_le HYY.out (by omega) a4
  obtain ⟨Z, HZ⟩ : ∃ B : Nat, Hid (B = (V * 4294967296 + D0) % Y) := ⟨_, rfl⟩
  have z1 : Z < Y := by rw [HZ.out]; exact Nat.mod_lt _ hYp
  obtain ⟨T1i, hT10⟩ : ∃ z : Int, z = (T1 : Int) := ⟨_, rfl⟩
  obtain ⟨T0i, hT00⟩ : ∃ z : Int, z = (T0 : Int) := ⟨_, rfl⟩
  obtain ⟨Vi, hV0⟩ : ∃ z : Int, z = (V : Int) := ⟨_, rfl⟩
  obtain ⟨Q2i, hQ20⟩ : ∃ z : Int, z = (Q2 : Int) := ⟨_, rfl⟩
  obtain ⟨R2i, hR20⟩ : ∃ z : Int, z = (R2 : Int) := ⟨_, rfl⟩
  obtain ⟨Zi, hZ0⟩ : ∃ z : Int, z = (Z : Int) := ⟨_, rfl⟩
  rw [← hU0] at r4
  rw [← hL0] at r5
  rw [← hY0] at r1
  have r2 : Yi / 4294967296 = Ai := by rw [hY0, hA0, HA.out]; omega
  have r3 : bits .and .u64 Yi 4294967295 = Bi := by rw [hY0, hB0, maskN Y hY2, HB.out]
  have r6 : Li / 4294967296 = D1i := by rw [hL0, hD10, HD1.out]; omega
  have r7 : bits .and .u64 Li 4294967295 = D0i := by rw [hL0, hD00, maskN L hL, HD0.out]
  have r8 : IntKind.u64.wrap (Ui / Ai) = Qi := by
    rw [hU0, hA0, hQ0, ← Int.natCast_ediv, ← HQ.out, wrapN _ (by omega)]
  have r8' : IntKind.u64.wrap (Ui.tdiv Ai) = Qi := by
    rw [Int.tdiv_eq_ediv_of_nonneg (by omega)]; exact r8
  have r9 : IntKind.u64.wrap (Ui - IntKind.u64.wrap (Qi * Ai)) = Ri := by
    have := HQR.out
    have hle : Q * A < 18446744073709551616 := by omega
    rw [hU0, hQ0, hA0, hR0, mulN, wrapN _ hle, show (U : Int) - ((Q * A : Nat) : Int) = (RH : Int) by omega, wrapN _ (by omega)]
  have r10 : IntKind.u64.wrap (IntKind.u64.wrap (IntKind.u64.wrap (Ui * 4294967296) + D1i) - IntKind.u64.wrap (T1i * Yi)) = Vi := by
    have h1 := Nat.div_add_mod (U * 4294967296 + D1) Y
    rw [← HT1.out, ← HV.out, Nat.mul_comm] at h1
    refine wrap3 _ _ _ _ ?_ (by omega) (by omega)
    rw [hT10, hY0, mulN, hU0, hD10, hV0]
    omega
  have r11 : IntKind.u64.wrap (Vi / Ai) = Q2i := by
    rw [hV0, hA0, hQ20, ← Int.natCast_ediv, ← HQ2.out, wrapN _ (by omega)]
  have r11' : IntKind.u64.wrap (Vi.tdiv Ai) = Q2i := by
    rw [Int.tdiv_eq_ediv_of_nonneg (by omega)]; exact r11
  have r12 : IntKind.u64.wrap (Vi - IntKind.u64.wrap (Q2i * Ai)) = R2i := by
    have := HQR2.out
    have hle : Q2 * A < 18446744073709551616 := by omega
    rw [hV0, hQ20, hA0, hR20, mulN, wrapN _ hle, show (V : Int) - ((Q2 * A : Nat) : Int) = (R2 : Int) by omega, wrapN _ (by omega)]
  have r13 : IntKind.u64.wrap (IntKind.u64.wrap (IntKind.u64.wrap (Vi * 4294967296) + D0i) - IntKind.u64.wrap (T0i * Yi)) = Zi := by
    have h1 := Nat.div_add_mod (V * 4294967296 + D0) Y
    rw [← HT0.out, ← HZ.out, Nat.mul_comm] at h1
    refine wrap3 _ _ _ _ ?_ (by omega) (by omega)
    rw [hT00, hY0, mulN, hV0, hD00, hZ0]
    omega
  have r14 : Hid (Zi / 2 ^ s = (((hi * 18446744073709551616 + lo) % y : Nat) : Int)) := by
    have h1 : Z = ((hi * 18446744073709551616 + lo) % y) * 2 ^ s := by
      have h2 : (U * 4294967296 + D1) * 4294967296 + D0 = U * 18446744073709551616 + L := by rw [HL2.out]; omega
      rw [HZ.out, HV.out, Obol.two_digits, h2, ← Nat.mul_mod_mul_right, Heq.out, ← HY.out]
    show _ = _
    rw [hZ0, h1, Int.natCast_mul, Int.natCast_pow]
    exact Int.mul_ediv_cancel _ (by have : (2 : Int) ^ s ≠ 0 := Int.pow_ne_zero (by omega); exact this)
  have i5 : 0 ≤ Vi := by omega
  have i1 : 0 ≤ Ai := by omega
  have i2 : 1 ≤ Ai := by omega
  have i3 : Ai < 4294967296 := by omega
  have i4 : 0 ≤ Ui := by omega
  have B := Lib.hid (And.intro a1 (And.intro a2 (And.intro a3 (And.intro a4 (And.intro t1 (And.intro t2 (And.intro q1 (And.intro q2 (And.intro hU (And.intro hL (And.intro hY1 (And.intro hY2 (And.intro hYp (And.intro q3 (And.intro q4 (And.intro t3 t4))))))))))))))))
  have E := Lib.hid (And.intro hA0 (And.intro hB0 (And.intro hD10 (And.intro hD00 (And.intro hU0 (And.intro hY0 (And.intro hL0 (And.intro hQ0 (And.intro hR0 (And.intro hT10 (And.intro hT00 (And.intro hV0 (And.intro hQ20 hR20)))))))))))))
  have F := Lib.hid (And.intro h0 (And.intro hy (And.intro hyl (And.intro hl hs))))
  clear a1 a2 a3 a4 t1 t2 q1 q2 hU hL hY1 hY2 hYp hA0 hB0 hD10 hD00 hU0 hY0 hL0 hQ0 hR0 h0 hyl hl v1 q3 q4 t3 t4 z1 hT10 hT00 hV0 hQ20 hR20 hZ0
  go_enter Tryz.func110, Tryz.ntmps110
  go_upto_block 0 with (go_at_call 117; refine Hz.out.mono ?_; rintro e w' ⟨rfl, rfl⟩)
  go_cut [15] (fun q wc => q = .int .u64 T1i ∧ w = wc)
  case first =>
    go_wp2_with fail
    clear r1 r2 r3 r4 r5 r6 r7 r8 r8' r9 r10 r11 r11' r12 r13 r14 f1 f2 f3
    have G0 : Guess A B0 D1 T1 U Y Qi Ri := by
      have e := E.out
      have b := B.out
      refine ⟨by omega, by omega, ?_, by omega, by omega, HYY.out, by omega, HT1.out, by omega, by omega⟩
      rw [e.2.2.2.2.2.2.2.1, e.2.2.2.2.2.2.2.2.1]
      exact HQR.out
    go_loop [15, 16] (fun q r => ∃ qn rn : Int, q = .int .u64 qn ∧ r = .int .u64 rn ∧ Guess A B0 D1 T1 U Y qn rn ∧ Hid (rn < 4294967296)) (fun q _ => (intOf q).toNat)
    case atStart => exact ⟨Qi, Ri, rfl, rfl, G0, by have e := E.out; have b := B.out; show Ri < _; omega⟩
    case round =>
      obtain ⟨qn, rn, rfl, rfl, Hq, Hr⟩ := hrel
      rename w = w => hww
      clear hww
      have j1 : 0 ≤ qn := Hq.q0
      have j2 : 0 ≤ rn := Hq.r0
      have j3 : rn < 4294967296 := Hr.out
      have j4 : qn ≤ 4294967297 := by have := Hq.q1; omega
      go_wp2_with fail
      · have k1 : qn < 4294967296 := by assumption
        have k2 : 4294967296 ≤ qn ∨ IntKind.u64.wrap (4294967296 * rn + D1i) < IntKind.u64.wrap (qn * Bi) := by assumption
        have k3 : 4294967296 ≤ rn + Ai := by assumption
        have e := E.out
        have b := B.out
        rw [e.2.1, e.2.2.1] at k2
        have hb := Hq.big Hr.out (by omega) (k2.imp_right fun h => ⟨k1, h⟩)
        have hn := (Hq.next hb).over (by omega) (by omega)
        go_meet
        exact ⟨by rw [wrap_pred (by omega) j4, hn, e.2.2.2.2.2.2.2.2.2.1], rfl⟩
      · have k1 : qn < 4294967296 := by assumption
        have k2 : 4294967296 ≤ qn ∨ IntKind.u64.wrap (4294967296 * rn + D1i) < IntKind.u64.wrap (qn * Bi) := by assumption
        have k3 : rn + Ai < 4294967296 := by assumption
        have e := E.out
        have b := B.out
        rw [e.2.1, e.2.2.1] at k2
        have hb := Hq.big Hr.out (by omega) (k2.imp_right fun h => ⟨k1, h⟩)
        go_round
        case rel => exact ⟨qn - 1, rn + Ai, by rw [wrap_pred (by omega) j4], rfl, by rw [e.1]; exact Hq.next hb, k3⟩
        case measure => simp only [intOf]; rw [wrap_pred (by omega) j4]; omega
      · have k2 : qn < 4294967296 ∧ IntKind.u64.wrap (qn * Bi) ≤ IntKind.u64.wrap (4294967296 * rn + D1i) := by assumption
        have e := E.out
        rw [e.2.1, e.2.2.1] at k2
        have hn := Hq.fits Hr.out k2.1 k2.2
        go_meet
        exact ⟨by rw [hn, e.2.2.2.2.2.2.2.2.2.1], rfl⟩
      · have k1 : 4294967296 ≤ qn := by assumption
        have k3 : 4294967296 ≤ rn + Ai := by assumption
        have e := E.out
        have b := B.out
        have hb := Hq.big Hr.out (by omega) (.inl k1)
        have hn := (Hq.next hb).over (by omega) (by omega)
        go_meet
        exact ⟨by rw [hn, e.2.2.2.2.2.2.2.2.2.1], rfl⟩
      · have k1 : ¬ qn < 4294967296 := by assumption
        have k3 : rn + Ai < 4294967296 := by assumption
        have e := E.out
        have b := B.out
        have hb := Hq.big Hr.out (by omega) (.inl (by omega))
        go_round
        case rel => exact ⟨qn - 1, rn + Ai, rfl, rfl, by rw [e.1]; exact Hq.next hb, k3⟩
        case measure => simp only [intOf]; omega
  case rest =>
    obtain ⟨rfl, rfl⟩ := hcut
    go_upto_block 2 with (fail)
    go_cut [18] (fun q wc => q = .int .u64 T0i ∧ w = wc)
    case first =>
      go_wp2_with fail
      clear r1 r2 r3 r4 r5 r6 r7 r8 r8' r9 r10 r11 r11' r12 r13 r14 f1 f2 f3
      have G0 : Guess A B0 D0 T0 V Y Q2i R2i := by
        have e := E.out
        have b := B.out
        refine ⟨by omega, by omega, ?_, by omega, by omega, HYY.out, by omega, HT0.out, by omega, by omega⟩
        rw [e.2.2.2.2.2.2.2.2.2.2.2.2.1, e.2.2.2.2.2.2.2.2.2.2.2.2.2]
        exact HQR2.out
      go_loop [18, 16] (fun q r => ∃ qn rn : Int, q = .int .u64 qn ∧ r = .int .u64 rn ∧ Guess A B0 D0 T0 V Y qn rn ∧ Hid (rn < 4294967296)) (fun q _ => (intOf q).toNat)
      case atStart => exact ⟨Q2i, R2i, rfl, rfl, G0, by have e := E.out; have b := B.out; show R2i < _; omega⟩
      case round =>
        obtain ⟨qn, rn, rfl, rfl, Hq, Hr⟩ := hrel
        rename w = w => hww
        clear hww
        have j1 : 0 ≤ qn := Hq.q0
        have j2 : 0 ≤ rn := Hq.r0
        have j3 : rn < 4294967296 := Hr.out
        have j4 : qn ≤ 4294967297 := by have := Hq.q1; omega
        go_wp2_with fail
        · have k1 : qn < 4294967296 := by assumption
          have k2 : 4294967296 ≤ qn ∨ IntKind.u64.wrap (4294967296 * rn + D0i) < IntKind.u64.wrap (qn * Bi) := by assumption
          have k3 : 4294967296 ≤ rn + Ai := by assumption
          have e := E.out
          have b := B.out
          rw [e.2.1, e.2.2.2.1] at k2
          have hb := Hq.big Hr.out (by omega) (k2.imp_right fun h => ⟨k1, h⟩)
          have hn := (Hq.next hb).over (by omega) (by omega)
          go_meet
          exact ⟨by rw [wrap_pred (by omega) j4, hn, e.2.2.2.2.2.2.2.2.2.2.1], rfl⟩
        · have k1 : qn < 4294967296 := by assumption
          have k2 : 4294967296 ≤ qn ∨ IntKind.u64.wrap (4294967296 * rn + D0i) < IntKind.u64.wrap (qn * Bi) := by assumption
          have k3 : rn + Ai < 4294967296 := by assumption
          have e := E.out
          have b := B.out
          rw [e.2.1, e.2.2.2.1] at k2
          have hb := Hq.big Hr.out (by omega) (k2.imp_right fun h => ⟨k1, h⟩)
          go_round
          case rel => exact ⟨qn - 1, rn + Ai, by rw [wrap_pred (by omega) j4], rfl, by rw [e.1]; exact Hq.next hb, k3⟩
          case measure => simp only [intOf]; rw [wrap_pred (by omega) j4]; omega
        · have k2 : qn < 4294967296 ∧ IntKind.u64.wrap (qn * Bi) ≤ IntKind.u64.wrap (4294967296 * rn + D0i) := by assumption
          have e := E.out
          rw [e.2.1, e.2.2.2.1] at k2
          have hn := Hq.fits Hr.out k2.1 k2.2
          go_meet
          exact ⟨by rw [hn, e.2.2.2.2.2.2.2.2.2.2.1], rfl⟩
        · have k1 : 4294967296 ≤ qn := by assumption
          have k3 : 4294967296 ≤ rn + Ai := by assumption
          have e := E.out
          have b := B.out
          have hb := Hq.big Hr.out (by omega) (.inl k1)
          have hn := (Hq.next hb).over (by omega) (by omega)
          go_meet
          exact ⟨by rw [hn, e.2.2.2.2.2.2.2.2.2.2.1], rfl⟩
        · have k1 : ¬ qn < 4294967296 := by assumption
          have k3 : rn + Ai < 4294967296 := by assumption
          have e := E.out
          have b := B.out
          have hb := Hq.big Hr.out (by omega) (.inl (by omega))
          go_round
          case rel => exact ⟨qn - 1, rn + Ai, rfl, rfl, by rw [e.1]; exact Hq.next hb, k3⟩
          case measure => simp only [intOf]; omega
    case rest =>
      obtain ⟨rfl, rfl⟩ := hcut
      go_wp2_with fail
      go_ret2
      rw [r14.out]
      exact ⟨_, rfl, rfl⟩

theorem div64_low (lo y : Nat) (w : World) (hy : 0 < y) :
    Calls Tryz.prog 110 #[.int .u64 0, .int .u64 (lo : Int), .int .u64 (y : Int)] w fun e w' =>
      ∃ q : Int, e = .returned (.tuple #[.int .u64 q, .int .u64 ((lo % y : Nat) : Int)]) ∧ ∃ n, w' = w.drewN n := by
  have f1 : ((y : Int) == 0) = false := by rw [beq_eq_false_iff_ne]; omega
  have f2 : (0 : Int) < (y : Int) := by omega
  go_enter Tryz.func110, Tryz.ntmps110
  go_wp2_with fail
  go_quiet (fail)
  go_wp2_with fail
  go_ret2
  exact ⟨_, rfl, _, rfl⟩

theorem div64_ok (hi lo y : Nat) (w : World) (hy : hi < y) (hyl : y < 18446744073709551616) (hl : lo < 18446744073709551616) :
    Calls Tryz.prog 110 #[.int .u64 (hi : Int), .int .u64 (lo : Int), .int .u64 (y : Int)] w fun e w' =>
      ∃ q : Int, e = .returned (.tuple #[.int .u64 q, .int .u64 (((hi * 18446744073709551616 + lo) % y : Nat) : Int)]) ∧ ∃ n, w' = w.drewN n := by
  by_cases h0 : hi = 0
  · subst h0
    rw [Nat.zero_mul, Nat.zero_add]
    exact div64_low lo y w hy
  · obtain ⟨b1, b2, b3⟩ := Lib.bitLenAux_bounds 64 y (by simpa using hyl) (by omega)
    have e1 : Lib.bitLen y = Lib.bitLenAux 64 y := rfl
    rw [← e1] at b1 b2 b3
    have b4 := bitLen_le64 y hyl
    have p1 : 2 ^ (Lib.bitLen y - 1) * 2 ^ (64 - Lib.bitLen y) = 9223372036854775808 := by
      rw [← Nat.pow_add, show Lib.bitLen y - 1 + (64 - Lib.bitLen y) = 63 by omega]
    have p2 : 2 ^ Lib.bitLen y * 2 ^ (64 - Lib.bitLen y) = 18446744073709551616 := by
      rw [← Nat.pow_add, show Lib.bitLen y + (64 - Lib.bitLen y) = 64 by omega]
    have q1 : 9223372036854775808 ≤ y * 2 ^ (64 - Lib.bitLen y) := by rw [← p1]; exact Nat.mul_le_mul_right _ b2
    have q2 : y * 2 ^ (64 - Lib.bitLen y) < 18446744073709551616 := by rw [← p2]; exact Nat.mul_lt_mul_of_pos_right b3 (Nat.pow_pos (by omega))
    refine (div64_any hi lo y (64 - Lib.bitLen y) (y * 2 ^ (64 - Lib.bitLen y)) w (by omega) hy hyl hl (by omega) (Lib.hid rfl) (Lib.hid rfl) q1 q2).mono ?_
    rintro e w' ⟨q, he, rfl⟩
    exact ⟨q, he, 0, rfl⟩

end Go.Proofs.YtkfimfjjmdjbdaaGreatDoor
/- The references' loops over bits: products by doubling, powers from the highest bit on. -/
namespace Obol

/-- What package modular reckons: names of their own, so that nothing looks inside. -/
def mulM (m a b : Nat) : Nat := a * b % m
def addM (m a b : Nat) : Nat := (a + b) % m
def subM (m a b : Nat) : Nat := (a % m + m - b % m) % m
def powM (m a e : Nat) : Nat := a ^ e % m

/-- A sum below m, by the subtraction that never goes round. -/
theorem add_mod_by {m a b : Nat} (ha : a < m) (hb : b < m) : (if m - b ≤ a then a - (m - b) else a + b) = (a + b) % m := by
  split
  · rename_i h
    rw [Nat.mod_eq_sub_mod (by omega), Nat.mod_eq_of_lt (by omega)]
    omega
  · rw [Nat.mod_eq_of_lt (by omega)]

theorem high_step (y i : Nat) (hi : i < 64) : y / 2 ^ (64 - (i + 1)) = 2 * (y / 2 ^ (64 - i)) + y / 2 ^ (63 - i) % 2 := by
  have e1 : 64 - (i + 1) = 63 - i := by omega
  have e2 : 64 - i = (63 - i) + 1 := by omega
  rw [e1, e2, Nat.pow_succ, ← Nat.div_div_eq_div_mul]
  omega

/-- A product's next step. -/
theorem mul_step (m x y i : Nat) (hi : i < 64) :
    ((y / 2 ^ (64 - i) * x % m + y / 2 ^ (64 - i) * x % m) % m + (if y / 2 ^ (63 - i) % 2 = 1 then x % m else 0)) % m = y / 2 ^ (64 - (i + 1)) * x % m := by
  rw [high_step y i hi]
  have hb : y / 2 ^ (63 - i) % 2 = 0 ∨ y / 2 ^ (63 - i) % 2 = 1 := by omega
  generalize y / 2 ^ (64 - i) = q at *
  rcases hb with e | e
  · rw [if_neg (by omega), e, Nat.add_zero, Nat.add_zero, Nat.mod_mod, ← Nat.add_mod, ← Nat.add_mul, Nat.two_mul]
  · rw [if_pos e, e, ← Nat.add_mod, Nat.add_mul, Nat.one_mul, Nat.mul_assoc, Nat.two_mul]
    rw [Nat.add_mod, ← Nat.add_mod (q * x) (q * x), ← Nat.add_mod]

/-- A power's next step. -/
theorem pow_step (m a e i : Nat) (hi : i < 64) :
    (if e / 2 ^ (63 - i) % 2 = 1 then (a ^ (e / 2 ^ (64 - i)) % m) * (a ^ (e / 2 ^ (64 - i)) % m) % m * a % m else (a ^ (e / 2 ^ (64 - i)) % m) * (a ^ (e / 2 ^ (64 - i)) % m) % m) =
      a ^ (e / 2 ^ (64 - (i + 1))) % m := by
  rw [high_step e i hi]
  have hb : e / 2 ^ (63 - i) % 2 = 0 ∨ e / 2 ^ (63 - i) % 2 = 1 := by omega
  generalize e / 2 ^ (64 - i) = q at *
  have hs : (a ^ q % m) * (a ^ q % m) % m = a ^ (2 * q) % m := by rw [← Nat.mul_mod, ← Nat.pow_add, Nat.two_mul]
  rw [hs]
  rcases hb with e | e
  · rw [if_neg (by omega), e, Nat.add_zero]
  · rw [if_pos e, e, Nat.mul_mod, Nat.mod_mod, ← Nat.mul_mod, ← Nat.pow_succ]

/-- Low bits first: what is gathered, times what is left. -/
theorem low_pow (m a e out : Nat) (_he : e ≠ 0) :
    (if e % 2 = 1 then out * a % m else out) * (a * a % m) ^ (e / 2) % m = out * a ^ e % m := by
  have h2 : (a * a) ^ (e / 2) = a ^ (2 * (e / 2)) := by rw [Nat.pow_mul, Nat.pow_two]
  rw [Nat.mul_mod, ← Nat.pow_mod, ← Nat.mul_mod, h2]
  split
  · rename_i h
    rw [Nat.mul_mod, Nat.mod_mod, ← Nat.mul_mod, Nat.mul_assoc, ← Nat.pow_succ']
    congr 3
    omega
  · congr 3
    omega

end Obol
/- Walks: package modular: sums, differences, products. -/
namespace Go.Proofs.YtkfimfjjmdjbdaaGreatDoor
open Go.RowKit

theorem no_ok (m : Int) (h0 : 2 ≤ m) (h1 : m ≤ 4611686018427387904) (w : World) :
    Calls Tryz.prog 90 #[.int .u64 m] w fun e w' => e = .returned (.bool false) ∧ w = w' := by
  go_enter Tryz.func90, Tryz.ntmps90
  go_wp2
  go_ret
  refine ⟨?_, rfl⟩
  show Ending.returned (.bool (decide (m < 2) || decide (4611686018427387904 < m))) = _
  rw [decide_eq_false (by omega), decide_eq_false (by omega)]
  rfl

/-- What the sum and the difference come to, as the walk spells them. -/
theorem end_add (m a b : Int) (h0 : 2 ≤ m) (h1 : m ≤ 4611686018427387904) (ha : 0 ≤ a) (hb : 0 ≤ b) :
    (IntKind.u64.wrap (a % m + b % m)).tmod m = ((Obol.addM m.toNat a.toNat b.toNat : Nat) : Int) := by
  have h2 := Int.emod_nonneg a (show m ≠ 0 by omega)
  have h3 := Int.emod_lt_of_pos a (show 0 < m by omega)
  have h4 := Int.emod_nonneg b (show m ≠ 0 by omega)
  have h5 := Int.emod_lt_of_pos b (show 0 < m by omega)
  rw [IntKind.wrap_u64, Int.emod_eq_of_lt (by omega) (by omega), Int.tmod_eq_emod_of_nonneg (by omega), ← Int.add_emod, Obol.addM, Int.natCast_emod, Int.natCast_add, Int.toNat_of_nonneg ha, Int.toNat_of_nonneg hb, Int.toNat_of_nonneg (by omega)]
theorem end_sub (m a b : Int) (h0 : 2 ≤ m) (h1 : m ≤ 4611686018427387904) (ha : 0 ≤ a) (hb : 0 ≤ b) :
    (IntKind.u64.wrap (IntKind.u64.wrap (a % m + m) - b % m)).tmod m = ((Obol.subM m.toNat a.toNat b.toNat : Nat) : Int) := by
  have h2 := Int.emod_nonneg a (show m ≠ 0 by omega)
  have h3 := Int.emod_lt_of_pos a (show 0 < m by omega)
  have h4 := Int.emod_nonneg b (show m ≠ 0 by omega)
  have h5 := Int.emod_lt_of_pos b (show 0 < m by omega)
  have e1 : (((a.toNat % m.toNat : Nat)) : Int) = a % m := by rw [Int.natCast_emod, Int.toNat_of_nonneg ha, Int.toNat_of_nonneg (by omega)]
  have e2 : (((b.toNat % m.toNat : Nat)) : Int) = b % m := by rw [Int.natCast_emod, Int.toNat_of_nonneg hb, Int.toNat_of_nonneg (by omega)]
  rw [IntKind.wrap_u64 (a % m + m), Int.emod_eq_of_lt (by omega) (by omega), IntKind.wrap_u64, Int.emod_eq_of_lt (by omega) (by omega), Int.tmod_eq_emod_of_nonneg (by omega), Obol.subM, Int.natCast_emod, Int.natCast_sub (by omega), Int.natCast_add, e1, e2, Int.toNat_of_nonneg (by omega)]

theorem mAdd (m a b : Int) (h0 : 2 ≤ m) (h1 : m ≤ 4611686018427387904) (ha : 0 ≤ a) (hb : 0 ≤ b) (w : World) :
    Calls Tryz.prog 88 #[.int .u64 m, .int .u64 a, .int .u64 b] w fun e w' => e = .returned (.int .u64 ((Obol.addM m.toNat a.toNat b.toNat : Nat) : Int)) ∧ ∃ n, w' = w.drewN n := by
  have he := Lib.hid (end_add m a b h0 h1 ha hb)
  go_enter Tryz.func88, Tryz.ntmps88
  go_wp2_with (go_at_call 90; refine (no_ok _ h0 h1 _).mono ?_; rintro e w' ⟨rfl, rfl⟩)
  go_quiet (fail)
  go_wp2
  go_ret
  exact ⟨ret_u64 he.out, _, rfl⟩

theorem mSub (m a b : Int) (h0 : 2 ≤ m) (h1 : m ≤ 4611686018427387904) (ha : 0 ≤ a) (hb : 0 ≤ b) (w : World) :
    Calls Tryz.prog 89 #[.int .u64 m, .int .u64 a, .int .u64 b] w fun e w' => e = .returned (.int .u64 ((Obol.subM m.toNat a.toNat b.toNat : Nat) : Int)) ∧ ∃ n, w' = w.drewN n := by
  have he := Lib.hid (end_sub m a b h0 h1 ha hb)
  go_enter Tryz.func89, Tryz.ntmps89
  go_wp2_with (go_at_call 90; refine (no_ok _ h0 h1 _).mono ?_; rintro e w' ⟨rfl, rfl⟩)
  go_quiet (fail)
  go_wp2
  go_ret
  exact ⟨ret_u64 he.out, _, rfl⟩

theorem mMul (m a b : Int) (h0 : 2 ≤ m) (h1 : m ≤ 4611686018427387904) (ha : 0 ≤ a) (hb : 0 ≤ b) (w : World) :
    Calls Tryz.prog 91 #[.int .u64 m, .int .u64 a, .int .u64 b] w fun e w' => e = .returned (.int .u64 ((Obol.mulM m.toNat a.toNat b.toNat : Nat) : Int)) ∧ ∃ n, w' = w.drewN n := by
  obtain ⟨M, hM⟩ := Int.eq_ofNat_of_zero_le (show 0 ≤ m by omega)
  obtain ⟨A, hA⟩ := Int.eq_ofNat_of_zero_le ha
  obtain ⟨B, hB⟩ := Int.eq_ofNat_of_zero_le hb
  have hm0 : 0 < M := by omega
  have la := Nat.mod_lt A hm0
  have lb := Nat.mod_lt B hm0
  have hlt : A % M * (B % M) < M * M := Nat.mul_lt_mul'' la lb
  have hmm : M * M ≤ M * 18446744073709551616 := Nat.mul_le_mul_left _ (by omega)
  have hhi : A % M * (B % M) / 18446744073709551616 < M := by rw [Nat.div_lt_iff_lt_mul (by omega)]; omega
  have c1 := fun w => mul64_any (A % M) (B % M) (by omega) (by omega) w
  have c2 := fun w => div64_ok (A % M * (B % M) / 18446744073709551616) (A % M * (B % M) % 18446744073709551616) M w hhi (by omega) (Nat.mod_lt _ (by omega))
  rw [show A % M * (B % M) / 18446744073709551616 * 18446744073709551616 + A % M * (B % M) % 18446744073709551616 = A % M * (B % M) from by rw [Nat.mul_comm]; exact Nat.div_add_mod _ _, ← Nat.mul_mod] at c2
  have hr : ((A * B % M : Nat) : Int) = ((Obol.mulM m.toNat a.toNat b.toNat : Nat) : Int) := by rw [hM, hA, hB]; rfl
  rw [hr] at c2
  generalize hH : A % M * (B % M) / 18446744073709551616 = H at c1 c2
  generalize hL : A % M * (B % M) % 18446744073709551616 = L at c1 c2
  rw [← hM] at c2
  have e1 : a % m = ((A % M : Nat) : Int) := by rw [hA, hM]; rfl
  have e2 : b % m = ((B % M : Nat) : Int) := by rw [hB, hM]; rfl
  generalize ((A % M : Nat) : Int) = X at c1 e1
  generalize ((B % M : Nat) : Int) = Y at c1 e2
  have e3 : a.tmod m = X := by rw [Int.tmod_eq_emod_of_nonneg ha]; exact e1
  have e4 : b.tmod m = Y := by rw [Int.tmod_eq_emod_of_nonneg hb]; exact e2
  have C1 := Lib.hid c1
  have C2 := Lib.hid c2
  have HN := Lib.hid (fun w => no_ok m h0 h1 w)
  have hz : ¬ m = 0 := by omega
  have hz2 : (m == 0) = false := by rw [beq_eq_false_iff_ne]; omega
  clear c1 c2 hlt hmm hhi la lb hM hA hB hm0 hH hL
  go_enter Tryz.func91, Tryz.ntmps91
  go_wp2_with (go_at_call 90; refine (HN.out _).mono ?_; rintro e w' ⟨rfl, rfl⟩)
  go_quiet ((go_at_call 109; exact q_same (C1.out _)))
  go_wp2_with (go_at_call 110; refine (C2.out _).mono ?_; rintro e w' ⟨q, rfl, n, rfl⟩)
  go_ret
  exact ⟨rfl, _, rfl⟩

end Go.Proofs.YtkfimfjjmdjbdaaGreatDoor
/- Walks: package modular: powers. -/
namespace Go.Proofs.YtkfimfjjmdjbdaaGreatDoor
open Go.RowKit

structure PowInv (M A E : Nat) (O X en : Int) : Prop where
  o0 : 0 ≤ O
  x0 : 0 ≤ X
  e0 : 0 ≤ en
  e1 : en ≤ 18446744073709551615
  lt : O.toNat < M
  eq : O.toNat * X.toNat ^ en.toNat % M = A ^ E % M

theorem PowInv.one {M A E : Nat} {O X en : Int} (h : PowInv M A E O X en) (hp : 0 < en) (ho : en % 2 = 1) :
    PowInv M A E ((Obol.mulM M O.toNat X.toNat : Nat) : Int) ((Obol.mulM M X.toNat X.toNat : Nat) : Int) (en / 2) := by
  have h0 := h.e0
  have h1 := h.e1
  have hM : 0 < M := Nat.lt_of_le_of_lt (Nat.zero_le _) h.lt
  refine ⟨by omega, by omega, by omega, by omega, by rw [Int.toNat_natCast]; exact Nat.mod_lt _ hM, ?_⟩
  have := Obol.low_pow M X.toNat en.toNat O.toNat (by omega)
  rw [if_pos (by omega)] at this
  rw [Int.toNat_natCast, Int.toNat_natCast, show (en / 2).toNat = en.toNat / 2 by omega]
  exact this.trans h.eq
theorem PowInv.zero {M A E : Nat} {O X en : Int} (h : PowInv M A E O X en) (hp : 0 < en) (ho : en % 2 = 0) :
    PowInv M A E O ((Obol.mulM M X.toNat X.toNat : Nat) : Int) (en / 2) := by
  have h0 := h.e0
  have h1 := h.e1
  have ho0 := h.o0
  refine ⟨ho0, by omega, by omega, by omega, h.lt, ?_⟩
  have := Obol.low_pow M X.toNat en.toNat O.toNat (by omega)
  rw [if_neg (by omega)] at this
  rw [Int.toNat_natCast, show (en / 2).toNat = en.toNat / 2 by omega]
  exact this.trans h.eq
theorem PowInv.done {M A E : Nat} {O X en : Int} (h : PowInv M A E O X en) (hp : en = 0) : O = ((Obol.powM M A E : Nat) : Int) := by
  have h1 := h.eq
  have h2 := h.o0
  rw [hp, show (0 : Int).toNat = 0 from rfl, Nat.pow_zero, Nat.mul_one, Nat.mod_eq_of_lt h.lt] at h1
  rw [Obol.powM, ← h1]
  omega

set_option maxHeartbeats 1000000 in
theorem mPow (m a x : Int) (h0 : 2 ≤ m) (h1 : m ≤ 4611686018427387904) (ha : 0 ≤ a) (hx : 0 ≤ x) (hx1 : x ≤ 18446744073709551615) (w : World) :
    Calls Tryz.prog 65 #[.int .u64 m, .int .u64 a, .int .u64 x] w fun e w' => e = .returned (.int .u64 ((Obol.powM m.toNat a.toNat x.toNat : Nat) : Int)) ∧ ∃ n, w' = w.drewN n := by
  have i0 : PowInv m.toNat a.toNat x.toNat 1 (a % m) x := by
    refine ⟨by omega, Int.emod_nonneg a (by omega), hx, hx1, by omega, ?_⟩
    rw [show (1 : Int).toNat = 1 from rfl, Nat.one_mul, Int.toNat_emod ha (by omega), ← Nat.pow_mod]
  have I0 := Lib.hid i0
  clear i0
  go_enter Tryz.func65, Tryz.ntmps65
  go_wp2_with (go_at_call 90; refine (no_ok _ h0 h1 _).mono ?_; rintro e w' ⟨rfl, rfl⟩)
  go_loopw [7, 1, 2] (fun o b e wr => ∃ O X en : Int, o = .int .u64 O ∧ b = .int .u64 X ∧ e = .int .u64 en ∧ Hid (PowInv m.toNat a.toNat x.toNat O X en) ∧ ∃ n, wr = w.drewN n) (fun _ _ e _ => (intOf e).toNat)
  case atStart => exact ⟨1, a % m, x, rfl, rfl, rfl, I0, 0, rfl⟩
  case round =>
    obtain ⟨O, X, en, rfl, rfl, rfl, HI, n, rfl⟩ := hrel
    have j1 := HI.out.o0
    have j2 := HI.out.x0
    have j3 := HI.out.e0
    have j4 := HI.out.e1
    have ea := and_one_u64 en j3 j4
    by_cases hp : 0 < en
    · by_cases ho : en % 2 = 1
      · have HN := Lib.hid (HI.out.one hp ho)
        go_wp2_with (go_at_call 91; refine (mMul _ _ _ h0 h1 (by omega) (by omega) _).mono ?_; rintro e w' ⟨rfl, n', rfl⟩)
        go_roundw
        case rel => exact ⟨_, _, _, rfl, rfl, rfl, HN, _, rfl⟩
        case measure => simp [intOf]; omega
      · have ho' : en % 2 = 0 := by omega
        have HN := Lib.hid (HI.out.zero hp ho')
        clear ho
        go_wp2_with (go_at_call 91; refine (mMul _ _ _ h0 h1 (by omega) (by omega) _).mono ?_; rintro e w' ⟨rfl, n', rfl⟩)
        go_roundw
        case rel => exact ⟨_, _, _, rfl, rfl, rfl, HN, _, rfl⟩
        case measure => simp [intOf]; omega
    · have HD := Lib.hid (HI.out.done (by omega))
      go_wp2_with (fail)
      go_ret
      exact ⟨ret_u64 HD.out, _, rfl⟩

end Go.Proofs.YtkfimfjjmdjbdaaGreatDoor
/- Numbers: the pigeonhole, powers modulo a number, and that a number with a root of full order is a prime (Lucas). No program in sight. -/
namespace Obol

theorem pigeon : ∀ (m n : Nat) (f : Nat → Nat), (∀ i, i < n → f i < m) → (∀ i j, i < n → j < n → f i = f j → i = j) → n ≤ m
  | 0, n, f, hf, _ => by
    cases n with
    | zero => exact Nat.le_refl _
    | succ n => exact absurd (hf 0 (by omega)) (by omega)
  | m + 1, n, f, hf, hi => by
    cases n with
    | zero => omega
    | succ n =>
      have h := pigeon m n (fun i => if f i = m then f n else f i)
        (fun i hin => by
          show (if f i = m then f n else f i) < m
          have h1 := hf i (by omega)
          have h2 := hf n (by omega)
          split
          · rename_i he
            have : f n ≠ m := fun e => by
              have := hi i n (by omega) (by omega) (he.trans e.symm)
              omega
            omega
          · omega)
        (fun i j hin hjn he => by
          have he : (if f i = m then f n else f i) = (if f j = m then f n else f j) := he
          split at he
          · split at he
            · rename_i a b
              exact hi i j (by omega) (by omega) (a.trans b.symm)
            · have := hi n j (by omega) (by omega) he
              omega
          · split at he
            · have := hi i n (by omega) (by omega) he
              omega
            · exact hi i j (by omega) (by omega) he)
      omega

theorem onto (n : Nat) (f : Nat → Nat) (hf : ∀ i, i < n → f i < n) (hi : ∀ i j, i < n → j < n → f i = f j → i = j) (v : Nat) (hv : v < n) : ∃ i, i < n ∧ f i = v := by
  refine Classical.byContradiction fun hno => ?_
  have hno : ∀ i, i < n → f i ≠ v := fun i hin e => hno ⟨i, hin, e⟩
  have h := pigeon n (n + 1) (fun i => if i < n then f i else v)
    (fun i hin => by
      show (if i < n then f i else v) < n
      split
      · rename_i h; exact hf i h
      · exact hv)
    (fun i j hin hjn he => by
      have he : (if i < n then f i else v) = (if j < n then f j else v) := he
      split at he
      · split at he
        · rename_i a b; exact hi i j a b he
        · rename_i a b; exact absurd he (hno i a)
      · split at he
        · rename_i a b; exact absurd he.symm (hno j b)
        · omega)
  omega

/-! powers modulo a number -/
def powm (m : Nat) : Nat → Nat → Nat → Nat
  | 0, _, _ => 1 % m
  | f + 1, a, e => if e = 0 then 1 % m else if e % 2 = 1 then a * powm m f (a * a % m) (e / 2) % m else powm m f (a * a % m) (e / 2)

theorem powm_eq (m : Nat) : ∀ (f a e : Nat), e < 2 ^ f → powm m f a e = a ^ e % m
  | 0, a, e, h => by
    have : e = 0 := by simpa using h
    subst this
    rfl
  | f + 1, a, e, h => by
    have ih := powm_eq m f (a * a % m) (e / 2) (by rw [Nat.pow_succ] at h; omega)
    have hsq : (a * a % m) ^ (e / 2) % m = a ^ (2 * (e / 2)) % m := by
      rw [← Nat.pow_mod, Nat.pow_mul, Nat.pow_two]
    unfold powm
    by_cases h0 : e = 0
    · rw [if_pos h0, h0, Nat.pow_zero]
    · rw [if_neg h0, ih, hsq]
      by_cases h1 : e % 2 = 1
      · rw [if_pos h1, Nat.mul_mod, Nat.mod_mod, ← Nat.mul_mod, Nat.mul_comm, ← Nat.pow_succ]
        congr 2
        omega
      · rw [if_neg h1]
        congr 2
        omega

/-- No number from k on, below k + f, divides q. -/
def none : Nat → Nat → Nat → Bool
  | 0, _, _ => true
  | f + 1, k, q => q % k != 0 && none f (k + 1) q

theorem none_spec : ∀ (f k q : Nat), none f k q = true → ∀ d, k ≤ d → d < k + f → q % d ≠ 0
  | 0, k, q, _, d, h1, h2 => by omega
  | f + 1, k, q, h, d, h1, h2 => by
    unfold none at h
    simp only [Bool.and_eq_true, bne_iff_ne, ne_eq] at h
    by_cases e : d = k
    · rw [e]; exact h.1
    · exact none_spec f (k + 1) q h.2 d (by omega) (by omega)

/-- A number whose divisors are 1 and it. -/
def Prm (q : Nat) : Prop := 1 < q ∧ ∀ d, d ∣ q → d = 1 ∨ d = q

theorem prm_of (f q : Nat) (h1 : 1 < q) (h : none f 2 q = true) (hs : q < (f + 2) * (f + 2)) : Prm q := by
  refine ⟨h1, fun d hd => ?_⟩
  obtain ⟨c, hc⟩ := hd
  have hn := none_spec f 2 q h
  by_cases hd1 : d = 1
  · exact .inl hd1
  by_cases hdq : d = q
  · exact .inr hdq
  exfalso
  have hd0 : 0 < d := by
    rcases Nat.eq_zero_or_pos d with e | e
    · rw [e, Nat.zero_mul] at hc; omega
    · exact e
  have hc0 : 0 < c := by
    rcases Nat.eq_zero_or_pos c with e | e
    · rw [e, Nat.mul_zero] at hc; omega
    · exact e
  have hc1 : c ≠ 1 := fun e => hdq (by rw [hc, e, Nat.mul_one])
  have hmd : q % d = 0 := by rw [hc]; exact Nat.mul_mod_right d c
  have hmc : q % c = 0 := by rw [hc]; exact Nat.mul_mod_left d c
  have a1 : f + 2 ≤ d := Nat.le_of_not_lt fun hlt => hn d (by omega) (by omega) hmd
  have a2 : f + 2 ≤ c := Nat.le_of_not_lt fun hlt => hn c (by omega) (by omega) hmc
  have := Nat.mul_le_mul a1 a2
  omega

theorem prm_coprime {q m : Nat} (hq : Prm q) (h : ¬ q ∣ m) : Nat.Coprime q m := by
  rcases hq.2 (Nat.gcd q m) (Nat.gcd_dvd_left q m) with e | e
  · exact e
  · exact absurd (e ▸ Nat.gcd_dvd_right q m) h

theorem prm_in : ∀ (l : List Nat), (∀ q, q ∈ l → Prm q) → ∀ m, 1 < m → m ∣ l.foldr (· * ·) 1 → ∃ q, q ∈ l ∧ q ∣ m
  | [], _, m, h1, h => by
    have : m = 1 := Nat.dvd_one.1 h
    omega
  | q :: l, hl, m, h1, h => by
    by_cases hq : q ∣ m
    · exact ⟨q, List.mem_cons_self .., hq⟩
    · have hc := prm_coprime (hl q (List.mem_cons_self ..)) hq
      obtain ⟨p, hp, hpm⟩ := prm_in l (fun p hp => hl p (List.mem_cons_of_mem _ hp)) m h1 (Nat.Coprime.dvd_of_dvd_mul_left hc.symm h)
      exact ⟨p, List.mem_cons_of_mem _ hp, hpm⟩

theorem one_mod {N : Nat} (h : 1 < N) : 1 % N = 1 := Nat.mod_eq_of_lt h

theorem pow_mul_one {N g a : Nat} (hN : 1 < N) (h : g ^ a % N = 1) (b : Nat) : g ^ (a * b) % N = 1 := by
  rw [Nat.pow_mul, Nat.pow_mod, h, Nat.one_pow, one_mod hN]

theorem pow_add_one {N g a : Nat} (h : g ^ a % N = 1) (b : Nat) : g ^ (a + b) % N = g ^ b % N := by
  rw [Nat.pow_add, Nat.mul_mod, h, Nat.one_mul, Nat.mod_mod]

theorem pow_gcd_one {N g : Nat} (hN : 1 < N) : ∀ (a b : Nat), g ^ a % N = 1 → g ^ b % N = 1 → g ^ (Nat.gcd a b) % N = 1 := by
  intro a
  induction a using Nat.strongRecOn with
  | _ a ih =>
    intro b ha hb
    by_cases h0 : a = 0
    · subst h0; rw [Nat.gcd_zero_left]; exact hb
    · rw [Nat.gcd_rec]
      refine ih (b % a) (Nat.mod_lt _ (by omega)) a ?_ ha
      have h1 := pow_mul_one hN ha (b / a)
      have h2 := pow_add_one h1 (b % a)
      rw [Nat.div_add_mod] at h2
      exact h2.symm.trans hb

/-- The order of g is N - 1: by the primes of N - 1. -/
theorem order_of (N g : Nat) (hN : 2 < N) (l : List Nat) (hl : ∀ q, q ∈ l → Prm q) (hf : l.foldr (· * ·) 1 = N - 1) (h1 : g ^ (N - 1) % N = 1)
    (hq : ∀ q, q ∈ l → g ^ ((N - 1) / q) % N ≠ 1) (i : Nat) (h0 : 0 < i) (hi : i < N - 1) : g ^ i % N ≠ 1 := by
  intro he
  have hd := pow_gcd_one (by omega) i (N - 1) he h1
  have hdi := Nat.gcd_dvd_left i (N - 1)
  obtain ⟨m, hm⟩ := Nat.gcd_dvd_right i (N - 1)
  have hle := Nat.le_of_dvd h0 hdi
  have hm1 : 1 < m := by
    refine Nat.lt_of_not_le fun hle1 => ?_
    have : m = 0 ∨ m = 1 := by omega
    rcases this with e | e
    · rw [e, Nat.mul_zero] at hm; omega
    · rw [e, Nat.mul_one] at hm; omega
  obtain ⟨q, hql, c, hc⟩ := prm_in l hl m hm1 (by rw [hf]; exact ⟨Nat.gcd i (N - 1), by rw [Nat.mul_comm]; exact hm⟩)
  have hq1 := (hl q hql).1
  refine hq q hql ?_
  have : (N - 1) / q = Nat.gcd i (N - 1) * c := by
    refine Nat.div_eq_of_eq_mul_right (by omega) ?_
    rw [← Nat.mul_assoc, Nat.mul_comm q, Nat.mul_assoc, ← hc]
    exact hm
  rw [this]
  exact pow_mul_one (by omega) hd c

/-- A root of full order: every number below N but 0 is a power of it. -/
theorem all_powers (N g : Nat) (hN : 2 < N) (h1 : g ^ (N - 1) % N = 1) (ho : ∀ i, 0 < i → i < N - 1 → g ^ i % N ≠ 1) (a : Nat) (h0 : 0 < a) (ha : a < N) :
    ∃ i, i < N - 1 ∧ g ^ i % N = a := by
  have hnz : ∀ i, i ≤ N - 1 → g ^ i % N ≠ 0 := by
    intro i hi he
    have : g ^ (N - 1) % N = 0 := by
      rw [show N - 1 = i + (N - 1 - i) by omega, Nat.pow_add, Nat.mul_mod, he, Nat.zero_mul, Nat.zero_mod]
    omega
  have hlt : ∀ i, g ^ i % N < N := fun i => Nat.mod_lt _ (by omega)
  have step : ∀ i j, i < j → j < N - 1 → g ^ i % N ≠ g ^ j % N := by
    intro i j hij hj he
    refine ho (j - i) (by omega) (by omega) ?_
    have e1 : g ^ (N - 1) % N = g ^ (j - i + (N - 1)) % N := by
      rw [show j - i + (N - 1) = j + (N - 1 - i) by omega, Nat.pow_add, Nat.mul_mod, ← he, ← Nat.mul_mod, ← Nat.pow_add]
      congr 2
      omega
    have e2 := pow_add_one h1 (j - i)
    rw [Nat.add_comm (N - 1)] at e2
    rw [← e2, ← e1]
    exact h1
  obtain ⟨i, hi, he⟩ := onto (N - 1) (fun i => g ^ i % N - 1)
    (fun i hi => by have := hnz i (by omega); have := hlt i; show g ^ i % N - 1 < N - 1; omega)
    (fun i j hi hj he => by
      have he : g ^ i % N - 1 = g ^ j % N - 1 := he
      have a1 := hnz i (by omega)
      have a2 := hnz j (by omega)
      have he : g ^ i % N = g ^ j % N := by omega
      rcases Nat.lt_trichotomy i j with h | h | h
      · exact absurd he (step i j h hj)
      · exact h
      · exact absurd he.symm (step j i h hi)) (a - 1) (by omega)
  have he : g ^ i % N - 1 = a - 1 := he
  have := hnz i (by omega)
  exact ⟨i, hi, by omega⟩

/-- What is known of a prime N with a root g of full order. -/
structure Root (N g : Nat) : Prop where
  big : 2 < N
  one : g ^ (N - 1) % N = 1
  ord : ∀ i, 0 < i → i < N - 1 → g ^ i % N ≠ 1

theorem Root.powers {N g : Nat} (h : Root N g) (a : Nat) (ha : a % N ≠ 0) : ∃ i, i < N - 1 ∧ g ^ i % N = a % N :=
  all_powers N g h.big h.one h.ord (a % N) (by omega) (Nat.mod_lt _ (by have := h.big; omega))

/-- Fermat. -/
theorem Root.fermat {N g : Nat} (h : Root N g) (a : Nat) (ha : a % N ≠ 0) : a ^ (N - 1) % N = 1 := by
  obtain ⟨i, _, he⟩ := h.powers a ha
  have hb := h.big
  rw [Nat.pow_mod, ← he, ← Nat.pow_mod, ← Nat.pow_mul, Nat.mul_comm]
  exact pow_mul_one (by omega) h.one i

theorem Root.nonzero {N g : Nat} (h : Root N g) {a b : Nat} (ha : a % N ≠ 0) (hb : b % N ≠ 0) : a * b % N ≠ 0 := by
  intro he
  have hN := h.big
  have := h.fermat a ha
  have h2 := h.fermat b hb
  have h3 : (a * b) ^ (N - 1) % N = 1 := by rw [Nat.mul_pow, Nat.mul_mod, this, h2, one_mod (by omega)]
  rw [Nat.pow_mod, he, Nat.zero_pow (by omega), Nat.zero_mod] at h3
  omega

/-- g to the i is 1 where N - 1 divides i alone. -/
theorem Root.dvd {N g : Nat} (h : Root N g) (i : Nat) (he : g ^ i % N = 1) : (N - 1) ∣ i := by
  have hN := h.big
  have h1 := pow_mul_one (by omega) h.one (i / (N - 1))
  have h2 := pow_add_one h1 (i % (N - 1))
  rw [Nat.div_add_mod, he] at h2
  refine Nat.dvd_of_mod_eq_zero ?_
  refine Classical.byContradiction fun hne => ?_
  exact h.ord (i % (N - 1)) (by omega) (Nat.mod_lt _ (by omega)) h2.symm

/-- Euler: what has power 1 to half of N - 1 is a square. -/
theorem Root.square {N g : Nat} (h : Root N g) (ho : (N - 1) % 2 = 0) (a : Nat) (ha : a % N ≠ 0) (he : a ^ ((N - 1) / 2) % N = 1) : ∃ x, x < N ∧ x * x % N = a % N := by
  have hN := h.big
  obtain ⟨i, _, hi⟩ := h.powers a ha
  have h1 : g ^ (i * ((N - 1) / 2)) % N = 1 := by rw [Nat.pow_mul, Nat.pow_mod, hi, ← Nat.pow_mod]; exact he
  obtain ⟨c, hc⟩ := h.dvd _ h1
  have h2 : i = 2 * c := by
    have e1 : N - 1 = (N - 1) / 2 * 2 := by omega
    have e2 : (N - 1) / 2 * i = (N - 1) / 2 * (2 * c) := by
      rw [Nat.mul_comm, hc, ← Nat.mul_assoc, ← e1]
    exact Nat.eq_of_mul_eq_mul_left (by omega) e2
  refine ⟨g ^ c % N, Nat.mod_lt _ (by omega), ?_⟩
  rw [← hi, h2, ← Nat.mul_mod, ← Nat.pow_add]
  congr 2
  omega

/-- A square has power 1 to half of N - 1. -/
theorem Root.euler {N g : Nat} (h : Root N g) (ho : (N - 1) % 2 = 0) (a x : Nat) (ha : a % N ≠ 0) (hx : x * x % N = a % N) : a ^ ((N - 1) / 2) % N = 1 := by
  have hx0 : x % N ≠ 0 := fun e => ha (by rw [← hx, Nat.mul_mod, e, Nat.zero_mul, Nat.zero_mod])
  rw [Nat.pow_mod, ← hx, ← Nat.pow_mod, ← Nat.pow_two, ← Nat.pow_mul, show 2 * ((N - 1) / 2) = N - 1 by omega]
  exact h.fermat x hx0

end Obol
/- The three primes, each with a root of full order: by the primes of what is one less. -/
namespace Obol

def R : Nat := 288230376287764481
def S : Nat := 72057593894066549
def P : Nat := 1152921505151057923

theorem R_def : R = 288230376287764481 := rfl
theorem S_def : S = 72057593894066549 := rfl
theorem P_def : P = 1152921505151057923 := rfl

theorem prm_list {l : List (Nat × Nat)} (h : l.all (fun x => decide (1 < x.1) && none x.2 2 x.1 && decide (x.1 < (x.2 + 2) * (x.2 + 2))) = true) :
    ∀ q, q ∈ l.map (·.1) → Prm q := by
  intro q hq
  obtain ⟨x, hx, rfl⟩ := List.mem_map.1 hq
  have := List.all_eq_true.1 h x hx
  simp only [Bool.and_eq_true, decide_eq_true_eq] at this
  exact prm_of x.2 x.1 this.1.1 this.1.2 this.2

theorem root_of (N g : Nat) (l : List (Nat × Nat)) (hN : 2 < N) (hl : N - 1 < 2 ^ 62)
    (h : l.all (fun x => decide (1 < x.1) && none x.2 2 x.1 && decide (x.1 < (x.2 + 2) * (x.2 + 2))) = true)
    (hf : (l.map (·.1)).foldr (· * ·) 1 = N - 1) (h1 : powm N 62 g (N - 1) = 1)
    (hq : l.all (fun x => powm N 62 g ((N - 1) / x.1) != 1) = true) : Root N g := by
  have e1 : g ^ (N - 1) % N = 1 := by rw [← powm_eq N 62 g (N - 1) hl]; exact h1
  refine ⟨hN, e1, order_of N g hN (l.map (·.1)) (prm_list h) hf e1 ?_⟩
  intro q hq'
  obtain ⟨x, hx, rfl⟩ := List.mem_map.1 hq'
  have := List.all_eq_true.1 hq x hx
  simp only [bne_iff_ne, ne_eq] at this
  rw [powm_eq N 62 g ((N - 1) / x.1) (Nat.lt_of_le_of_lt (Nat.div_le_self _ _) hl)] at this
  exact this

theorem rootR : Root R 3 := root_of R 3 ((List.replicate 18 (2, 0)) ++ [(5, 1), (587, 23), (619, 23), (769, 26), (787, 27)]) (by decide +kernel) (by decide +kernel) (by decide +kernel) (by decide +kernel) (by decide +kernel) (by decide +kernel)
theorem rootS : Root S 2 := root_of S 2 [(2, 0), (2, 0), (67, 7), (317, 16), (57251, 238), (14815033, 3848)] (by decide +kernel) (by decide +kernel) (by decide +kernel) (by decide +kernel) (by decide +kernel) (by decide +kernel)
theorem rootP : Root P 2 := root_of P 2 [(2, 0), (3, 0), (3, 0), (7, 1), (1879, 42), (1368181, 1168), (3559253, 1885)] (by decide +kernel) (by decide +kernel) (by decide +kernel) (by decide +kernel) (by decide +kernel) (by decide +kernel)

end Obol
