import Derived.Test.YtiffendfojhapaaDoorProg
import Derived.Test.YtiffendfojhapaaDoorDiv
import Derived.WalkKit
import Derived.KernelRfl
import Derived.Deep.QuietTactic
import Derived.BigQuiet
import Derived.Deep.Draws
import Derived.WalkSpells
import Derived.WalkLawsBesides
import Derived.Laws.Bits64
import Derived.Laws.Bits64b
import Derived.Laws.BitsAllLaws
import Derived.Lib.Hide
import Derived.Lib.Mul64
import Derived.Lib.BitFns
import Derived.Lib.ItoaNum
import Derived.Lib.Strings
import Derived.Lib.Slices
import Derived.Lib.Small
import Derived.Lib.Walk
/- Walks: math/bits: Mul64, Len64, LeadingZeros64. -/
namespace Go.Proofs.YtiffendfojhapaaDoor
open Go.RowKit

theorem ret_u64 {a b : Int} (h : a = b) : Ending.returned (.int .u64 a) = .returned (.int .u64 b) := by rw [h]

/-- A callee that leaves the world alone, met in a region that draws its order. -/
theorem q_same {P : Program} {f : FuncId} {args : Array Value} {w : World} {n : Nat} {v : Value} (h : Calls P f args (w.drewN n) fun e w' => e = .returned v ∧ w.drewN n = w') :
    Calls P f args (w.drewN n) fun e w'' => e = .returned v ∧ ∃ m, w'' = w.drewN m := Calls.quiet_of_same (h.mono fun _ _ h => ⟨h.1, h.2.symm⟩)

theorem quiet_add {P : Program} {f : FuncId} {args : Array Value} {w : World} {a n : Nat} {v : Value} (h : Calls P f args (w.drewN (a + n)) fun e w' => e = .returned v ∧ ∃ m, w' = (w.drewN (a + n)).drewN m) :
    Calls P f args (w.drewN (a + n)) fun e w'' => e = .returned v ∧ ∃ m, w'' = w.drewN (a + m) := h.mono fun _ _ ⟨he, m, hm⟩ => ⟨he, n + m, by rw [hm, World.drewN_drewN, Nat.add_assoc]⟩

theorem maskN (a : Nat) (ha : a < 18446744073709551616) : bits .and .u64 (a : Int) 4294967295 = ((a % 4294967296 : Nat) : Int) := by
  have h := bits_and_u64_nat a 4294967295 ha (by omega)
  have e : a &&& 4294967295 = a % 4294967296 := Nat.and_two_pow_sub_one_eq_mod a 32
  rw [e] at h
  exact h
theorem divN (a : Nat) : (a : Int) / 4294967296 = ((a / 4294967296 : Nat) : Int) := by omega
theorem mulN (a b : Nat) : (a : Int) * (b : Int) = ((a * b : Nat) : Int) := (Int.natCast_mul a b).symm
theorem addN (a b : Nat) : (a : Int) + (b : Int) = ((a + b : Nat) : Int) := (Int.natCast_add a b).symm
theorem wrapN (a : Nat) (ha : a < 18446744073709551616) : IntKind.u64.wrap (a : Int) = (a : Int) := by rw [IntKind.wrap_u64]; omega
theorem wrapM (a : Nat) : IntKind.u64.wrap (a : Int) = ((a % 18446744073709551616 : Nat) : Int) := by rw [IntKind.wrap_u64]; omega

theorem mul64_any (x y : Nat) (hx : x < 18446744073709551616) (hy : y < 18446744073709551616) (w : World) :
    Calls Tryd.prog 70 #[.int .u64 (x : Int), .int .u64 (y : Int)] w fun e w' =>
      e = .returned (.tuple #[.int .u64 ((x * y / 18446744073709551616 : Nat) : Int), .int .u64 ((x * y % 18446744073709551616 : Nat) : Int)]) ∧ w = w' := by
  obtain ⟨bd, bt, bw, hhi⟩ := Lib.mul64_hi x y hx hy
  have ba := Lib.half_mul_le (a := x / 4294967296) (b := y / 4294967296) (by omega) (by omega)
  have bb := Lib.half_mul_le (a := x / 4294967296) (b := y % 4294967296) (by omega) (by omega)
  have bc := Lib.half_mul_le (a := x % 4294967296) (b := y / 4294967296) (by omega) (by omega)
  have ba' : x / 4294967296 * (y / 4294967296) < 18446744073709551616 := by omega
  have bb' : x / 4294967296 * (y % 4294967296) < 18446744073709551616 := by omega
  have bc' : x % 4294967296 * (y / 4294967296) < 18446744073709551616 := by omega
  have bh1 : x / 4294967296 * (y / 4294967296) + (x / 4294967296 * (y % 4294967296) + x % 4294967296 * (y % 4294967296) / 4294967296) / 4294967296 < 18446744073709551616 := by omega
  have bh : x / 4294967296 * (y / 4294967296) + (x / 4294967296 * (y % 4294967296) + x % 4294967296 * (y % 4294967296) / 4294967296) / 4294967296 + ((x / 4294967296 * (y % 4294967296) + x % 4294967296 * (y % 4294967296) / 4294967296) % 4294967296 + x % 4294967296 * (y / 4294967296)) / 4294967296 < 18446744073709551616 := by omega
  have Hhi := Lib.hid hhi
  clear hhi
  go_enter Tryd.func70, Tryd.ntmps70
  go_wp2
  simp only [maskN x hx, maskN y hy, divN, mulN, addN, wrapN _ bd, wrapN _ bb', wrapN _ bt, maskN _ bt, wrapN _ bc', wrapN _ bw, wrapN _ ba', wrapN _ bh1, wrapN _ bh, wrapM (x * y)]
  rw [Hhi.out]
  go_ret2
  exact ⟨rfl, rfl⟩

theorem len8_at (x : Int) (h0 : 0 ≤ x) (h1 : x ≤ 255) {h : x.toNat < Lib.len8tab.size} : ((Lib.len8tab[x.toNat]'h).toNat : Int) = (Lib.bitLen x.toNat : Int) := by
  have e := Lib.len8_of x h0 h1
  unfold Lib.len8 at e
  rw [getElem?_pos Lib.len8tab x.toNat h, Option.getD_some] at e
  exact e
theorem len_arm (K : Int) (D : Nat) (x y : Int) (k0 : 0 ≤ K) (k1 : K ≤ 56) (h0 : 0 ≤ y) (h1 : y ≤ 255) (he : y.toNat = x.toNat / D) (hs : (Lib.bitLen x.toNat : Int) = K + Lib.bitLen (x.toNat / D)) {h : y.toNat < Lib.len8tab.size} :
    wrap64 (K + wrap64 ((Lib.len8tab[y.toNat]'h).toNat : Int)) = (Lib.bitLen x.toNat : Int) := by
  have l := Lib.bitLen_le8' y h0 h1
  rw [len8_at y h0 h1, he, hs]
  rw [he] at l
  unfold wrap64
  omega
theorem len_arm0 (x : Int) (h0 : 0 ≤ x) (h1 : x ≤ 255) {h : x.toNat < Lib.len8tab.size} : wrap64 (wrap64 ((Lib.len8tab[x.toNat]'h).toNat : Int)) = (Lib.bitLen x.toNat : Int) := by
  have l := Lib.bitLen_le8' x h0 h1
  rw [len8_at x h0 h1]
  unfold wrap64
  omega

set_option maxHeartbeats 4000000 in
set_option maxRecDepth 100000 in
theorem len64_any (x : Int) (w : World) (h0 : 0 ≤ x) (h1 : x ≤ 18446744073709551615) :
    Calls Tryd.prog 86 #[.int .u64 x] w fun e w' => e = .returned (.int .i64 (Lib.bitLen x.toNat)) ∧ w = w' := by
  have hsz := Lib.len8tab_size
  go_enter Tryd.func86, Tryd.ntmps86
  go_wp2
  all_goals (go_ret; refine ⟨congrArg Ending.returned (congrArg (Value.int IntKind.i64) ?_), rfl⟩)
  · exact len_arm 56 72057594037927936 x _ (by omega) (by omega) (by omega) (by omega) (by omega) (by have := Lib.bitLen_shift56 x.toNat (by omega) (by omega); omega)
  · exact len_arm 48 281474976710656 x _ (by omega) (by omega) (by omega) (by omega) (by omega) (by have := Lib.bitLen_shift48 x.toNat (by omega) (by omega); omega)
  · exact len_arm 40 1099511627776 x _ (by omega) (by omega) (by omega) (by omega) (by omega) (by have := Lib.bitLen_shift40 x.toNat (by omega) (by omega); omega)
  · exact len_arm 32 4294967296 x _ (by omega) (by omega) (by omega) (by omega) (by omega) (by have := Lib.bitLen_shift32 x.toNat (by omega) (by omega); omega)
  · exact len_arm 24 16777216 x _ (by omega) (by omega) (by omega) (by omega) (by omega) (by have := Lib.bitLen_shift24 x.toNat (by omega) (by omega); omega)
  · exact len_arm 16 65536 x _ (by omega) (by omega) (by omega) (by omega) (by omega) (by have := Lib.bitLen_shift16 x.toNat (by omega) (by omega); omega)
  · exact len_arm 8 256 x _ (by omega) (by omega) (by omega) (by omega) (by omega) (by have := Lib.bitLen_shift8 x.toNat (by omega) (by omega); omega)
  · exact len_arm0 x (by omega) (by omega)

theorem bitLen_le64 (x : Nat) (h : x < 18446744073709551616) : Lib.bitLen x ≤ 64 := Lib.bitLen_le x 64 (by omega) (by simpa using h)

theorem lz64_any (x : Nat) (w : World) (h1 : x < 18446744073709551616) :
    Calls Tryd.prog 84 #[.int .u64 (x : Int)] w fun e w' => e = .returned (.int .i64 ((64 - Lib.bitLen x : Nat) : Int)) ∧ w = w' := by
  have l := bitLen_le64 x h1
  have hx : ((x : Int)).toNat = x := Int.toNat_natCast x
  have HX := Lib.hid hx
  clear hx
  go_enter Tryd.func84, Tryd.ntmps84
  go_wp2_with (go_at_call 86; refine (len64_any _ _ (by omega) (by omega)).mono ?_; rintro e w' ⟨rfl, rfl⟩)
  go_ret
  refine ⟨congrArg Ending.returned (congrArg (Value.int IntKind.i64) ?_), rfl⟩
  omega

end Go.Proofs.YtiffendfojhapaaDoor
