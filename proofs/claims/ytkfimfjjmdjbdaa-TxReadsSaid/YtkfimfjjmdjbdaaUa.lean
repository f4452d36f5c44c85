import Derived.Test.YtkfimfjjmdjbdaaProg
import Derived.WalkKit
import Derived.KernelRfl
import Derived.Deep.QuietTactic
import Derived.BigQuiet
import Derived.Deep.Draws
import Derived.WalkSpells
import Derived.WalkLawsBesides
import Derived.Laws.Bits64
import Derived.Laws.Bits64b
import Derived.Laws.BitsAllLaws
import Derived.Lib.Hide
import Derived.Lib.Mul64
import Derived.Lib.BitFns
import Derived.Lib.ItoaNum
import Derived.Lib.Strings
import Derived.Lib.Slices
import Derived.Lib.Small
import Derived.Lib.Walk
import Derived.Deep.CutBlock
import Derived.Deep.LoopGhost
import Derived.Deep.DeepCutAuto
set_option linter.unusedVariables false
set_option linter.unusedSimpArgs false
set_option linter.unusedSectionVars false
/- Long division, a digit at a time: what the guess of a digit comes to. Y = yn1 B + yn0; u B + d is divided by Y. -/
namespace Obol

theorem guess_le {B Y u d yn1 yn0 : Nat} (hY : Y = yn1 * B + yn0) (h1 : 0 < yn1) (hd : d < B) : (u * B + d) / Y ≤ u / yn1 := by
  rw [Nat.le_div_iff_mul_le h1]
  have h2 : (u * B + d) / Y * Y ≤ u * B + d := Nat.div_mul_le_self _ _
  generalize (u * B + d) / Y = q at *
  rw [hY, Nat.mul_add, ← Nat.mul_assoc] at h2
  refine Nat.le_of_not_lt fun hlt => ?_
  have h3 : (u + 1) * B ≤ q * yn1 * B := Nat.mul_le_mul_right _ hlt
  rw [Nat.succ_mul] at h3
  have : 0 ≤ q * yn0 := Nat.zero_le _
  omega

theorem guess_big {B Y u d yn1 yn0 q r : Nat} (hY : Y = yn1 * B + yn0) (hYp : 0 < Y) (hq : q * yn1 + r = u) (h : B * r + d < q * yn0) : (u * B + d) / Y < q := by
  rw [Nat.div_lt_iff_lt_mul hYp, hY, Nat.mul_add, ← Nat.mul_assoc, ← hq, Nat.add_mul, Nat.mul_comm r B]
  omega

theorem guess_fits {B Y u d yn1 yn0 q r : Nat} (hY : Y = yn1 * B + yn0) (hYp : 0 < Y) (hq : q * yn1 + r = u) (h : q * yn0 ≤ B * r + d) : q ≤ (u * B + d) / Y := by
  rw [Nat.le_div_iff_mul_le hYp, hY, Nat.mul_add, ← Nat.mul_assoc, ← hq, Nat.add_mul, Nat.mul_comm r B]
  omega

theorem digit_lt {B Y u d : Nat} (hd : d < B) (hu : u < Y) : (u * B + d) / Y < B := by
  rw [Nat.div_lt_iff_lt_mul (by omega)]
  have : (u + 1) * B ≤ Y * B := Nat.mul_le_mul_right _ hu
  rw [Nat.succ_mul] at this
  rw [Nat.mul_comm B]
  omega

theorem guess_over {B d yn0 q r : Nat} (h0 : yn0 < B) (hq : q ≤ B) (hr : B ≤ r) : q * yn0 ≤ B * r + d := by
  have h1 : q * yn0 ≤ B * yn0 := Nat.mul_le_mul_right _ hq
  have h2 : B * yn0 ≤ B * r := Nat.mul_le_mul_left _ (by omega)
  omega

theorem guess_near {B Y u yn1 yn0 : Nat} (hY : Y = yn1 * B + yn0) (h0 : yn0 < B) (h2 : B ≤ 2 * yn1) (hu : u < Y) : u / yn1 ≤ B + 1 := by
  have h1 : 0 < yn1 := by omega
  refine Nat.le_of_lt_succ ?_
  rw [Nat.div_lt_iff_lt_mul h1, Nat.succ_mul, Nat.add_mul, Nat.one_mul, Nat.mul_comm B]
  omega

/-- The whole: two digits, one behind the other. -/
theorem two_digits {B Y u d1 d0 : Nat} :
    ((u * B + d1) % Y * B + d0) % Y = ((u * B + d1) * B + d0) % Y := by
  rw [Nat.add_mod, Nat.mul_mod, Nat.mod_mod, ← Nat.mul_mod, ← Nat.add_mod]

end Obol
/- Walks: math/bits: Mul64, Len64, LeadingZeros64. -/
namespace Go.Proofs.Ytkfimfjjmdjbdaa
open Go.RowKit

theorem ret_u64 {a b : Int} (h : a = b) : Ending.returned (.int .u64 a) = .returned (.int .u64 b) := by rw [h]

/-- A callee that leaves the world alone, met in a region that draws its order. -/
theorem q_same {P : Program} {f : FuncId} {args : Array Value} {w : World} {n : Nat} {v : Value} (h : Calls P f args (w.drewN n) fun e w' => e = .returned v ∧ w.drewN n = w') :
    Calls P f args (w.drewN n) fun e w'' => e = .returned v ∧ ∃ m, w'' = w.drewN m := Calls.quiet_of_same (h.mono fun _ _ h => ⟨h.1, h.2.symm⟩)

theorem quiet_add {P : Program} {f : FuncId} {args : Array Value} {w : World} {a n : Nat} {v : Value} (h : Calls P f args (w.drewN (a + n)) fun e w' => e = .returned v ∧ ∃ m, w' = (w.drewN (a + n)).drewN m) :
    Calls P f args (w.drewN (a + n)) fun e w'' => e = .returned v ∧ ∃ m, w'' = w.drewN (a + m) := h.mono fun _ _ ⟨he, m, hm⟩ => ⟨he, n + m, by rw [hm, World.drewN_drewN, Nat.add_assoc]⟩

theorem maskN (a : Nat) (ha : a < 18446744073709551616) : bits .and .u64 (a : Int) 4294967295 = ((a % 4294967296 : Nat) : Int) := by
  have h := bits_and_u64_nat a 4294967295 ha (by omega)
  have e : a &&& 4294967295 = a % 4294967296 := Nat.and_two_pow_sub_one_eq_mod a 32
  rw [e] at h
  exact h
theorem divN (a : Nat) : (a : Int) / 4294967296 = ((a / 4294967296 : Nat) : Int) := by omega
theorem mulN (a b : Nat) : (a : Int) * (b : Int) = ((a * b : Nat) : Int) := (Int.natCast_mul a b).symm
theorem addN (a b : Nat) : (a : Int) + (b : Int) = ((a + b : Nat) : Int) := (Int.natCast_add a b).symm
theorem wrapN (a : Nat) (ha : a < 18446744073709551616) : IntKind.u64.wrap (a : Int) = (a : Int) := by rw [IntKind.wrap_u64]; omega
theorem wrapM (a : Nat) : IntKind.u64.wrap (a : Int) = ((a % 18446744073709551616 : Nat) : Int) := by rw [IntKind.wrap_u64]; omega

theorem mul64_any (x y : Nat) (hx : x < 18446744073709551616) (hy : y < 18446744073709551616) (w : World) :
    Calls Try.prog 99 #[.int .u64 (x : Int), .int .u64 (y : Int)] w fun e w' =>
      e = .returned (.tuple #[.int .u64 ((x * y / 18446744073709551616 : Nat) : Int), .int .u64 ((x * y % 18446744073709551616 : Nat) : Int)]) ∧ w = w' := by
  obtain ⟨bd, bt, bw, hhi⟩ := Lib.mul64_hi x y hx hy
  have ba := Lib.half_mul_le (a := x / 4294967296) (b := y / 4294967296) (by omega) (by omega)
  have bb := Lib.half_mul_le (a := x / 4294967296) (b := y % 4294967296) (by omega) (by omega)
  have bc := Lib.half_mul_le (a := x % 4294967296) (b := y / 4294967296) (by omega) (by omega)
  have ba' : x / 4294967296 * (y / 4294967296) < 18446744073709551616 := by omega
  have bb' : x / 4294967296 * (y % 4294967296) < 18446744073709551616 := by omega
  have bc' : x % 4294967296 * (y / 4294967296) < 18446744073709551616 := by omega
  have bh1 : x / 4294967296 * (y / 4294967296) + (x / 4294967296 * (y % 4294967296) + x % 4294967296 * (y % 4294967296) / 4294967296) / 4294967296 < 18446744073709551616 := by omega
  have bh : x / 4294967296 * (y / 4294967296) + (x / 4294967296 * (y % 4294967296) + x % 4294967296 * (y % 4294967296) / 4294967296) / 4294967296 + ((x / 4294967296 * (y % 4294967296) + x % 4294967296 * (y % 4294967296) / 4294967296) % 4294967296 + x % 4294967296 * (y / 4294967296)) / 4294967296 < 18446744073709551616 := by omega
  have Hhi := Lib.hid hhi
  clear hhi
  go_enter Try.func99, Try.ntmps99
  go_wp2
  simp only [maskN x hx, maskN y hy, divN, mulN, addN, wrapN _ bd, wrapN _ bb', wrapN _ bt, maskN _ bt, wrapN _ bc', wrapN _ bw, wrapN _ ba', wrapN _ bh1, wrapN _ bh, wrapM (x * y)]
  rw [Hhi.out]
  go_ret2
  exact ⟨rfl, rfl⟩

theorem len8_at (x : Int) (h0 : 0 ≤ x) (h1 : x ≤ 255) {h : x.toNat < Lib.len8tab.size} : ((Lib.len8tab[x.toNat]'h).toNat : Int) = (Lib.bitLen x.toNat : Int) := by
  have e := Lib.len8_of x h0 h1
  unfold Lib.len8 at e
  rw [getElem?_pos Lib.len8tab x.toNat h, Option.getD_some] at e
  exact e
theorem len_arm (K : Int) (D : Nat) (x y : Int) (k0 : 0 ≤ K) (k1 : K ≤ 56) (h0 : 0 ≤ y) (h1 : y ≤ 255) (he : y.toNat = x.toNat / D) (hs : (Lib.bitLen x.toNat : Int) = K + Lib.bitLen (x.toNat / D)) {h : y.toNat < Lib.len8tab.size} :
    wrap64 (K + wrap64 ((Lib.len8tab[y.toNat]'h).toNat : Int)) = (Lib.bitLen x.toNat : Int) := by
  have l := Lib.bitLen_le8' y h0 h1
  rw [len8_at y h0 h1, he, hs]
  rw [he] at l
  unfold wrap64
  omega
theorem len_arm0 (x : Int) (h0 : 0 ≤ x) (h1 : x ≤ 255) {h : x.toNat < Lib.len8tab.size} : wrap64 (wrap64 ((Lib.len8tab[x.toNat]'h).toNat : Int)) = (Lib.bitLen x.toNat : Int) := by
  have l := Lib.bitLen_le8' x h0 h1
  rw [len8_at x h0 h1]
  unfold wrap64
  omega

set_option maxHeartbeats 4000000 in
set_option maxRecDepth 100000 in
theorem len64_any (x : Int) (w : World) (h0 : 0 ≤ x) (h1 : x ≤ 18446744073709551615) :
    Calls Try.prog 104 #[.int .u64 x] w fun e w' => e = .returned (.int .i64 (Lib.bitLen x.toNat)) ∧ w = w' := by
  have hsz := Lib.len8tab_size
  go_enter Try.func104, Try.ntmps104
  go_wp2
  all_goals (go_ret; refine ⟨congrArg Ending.returned (congrArg (Value.int IntKind.i64) ?_), rfl⟩)
  · exact len_arm 56 72057594037927936 x _ (by omega) (by omega) (by omega) (by omega) (by omega) (by have := Lib.bitLen_shift56 x.toNat (by omega) (by omega); omega)
  · exact len_arm 48 281474976710656 x _ (by omega) (by omega) (by omega) (by omega) (by omega) (by have := Lib.bitLen_shift48 x.toNat (by omega) (by omega); omega)
  · exact len_arm 40 1099511627776 x _ (by omega) (by omega) (by omega) (by omega) (by omega) (by have := Lib.bitLen_shift40 x.toNat (by omega) (by omega); omega)
  · exact len_arm 32 4294967296 x _ (by omega) (by omega) (by omega) (by omega) (by omega) (by have := Lib.bitLen_shift32 x.toNat (by omega) (by omega); omega)
  · exact len_arm 24 16777216 x _ (by omega) (by omega) (by omega) (by omega) (by omega) (by have := Lib.bitLen_shift24 x.toNat (by omega) (by omega); omega)
  · exact len_arm 16 65536 x _ (by omega) (by omega) (by omega) (by omega) (by omega) (by have := Lib.bitLen_shift16 x.toNat (by omega) (by omega); omega)
  · exact len_arm 8 256 x _ (by omega) (by omega) (by omega) (by omega) (by omega) (by have := Lib.bitLen_shift8 x.toNat (by omega) (by omega); omega)
  · exact len_arm0 x (by omega) (by omega)

theorem bitLen_le64 (x : Nat) (h : x < 18446744073709551616) : Lib.bitLen x ≤ 64 := Lib.bitLen_le x 64 (by omega) (by simpa using h)

theorem lz64_any (x : Nat) (w : World) (h1 : x < 18446744073709551616) :
    Calls Try.prog 103 #[.int .u64 (x : Int)] w fun e w' => e = .returned (.int .i64 ((64 - Lib.bitLen x : Nat) : Int)) ∧ w = w' := by
  have l := bitLen_le64 x h1
  have hx : ((x : Int)).toNat = x := Int.toNat_natCast x
  have HX := Lib.hid hx
  clear hx
  go_enter Try.func103, Try.ntmps103
  go_wp2_with (go_at_call 104; refine (len64_any _ _ (by omega) (by omega)).mono ?_; rintro e w' ⟨rfl, rfl⟩)
  go_ret
  refine ⟨congrArg Ending.returned (congrArg (Value.int IntKind.i64) ?_), rfl⟩
  omega

end Go.Proofs.Ytkfimfjjmdjbdaa
/- Walks: math/bits: Div64. -/
namespace Go.Proofs.Ytkfimfjjmdjbdaa
open Go.RowKit

theorem join64 (a b s : Nat) (ha : a % 2 ^ s = 0) (hb : b < 2 ^ s) (h : a + b < 18446744073709551616) : bits .or .u64 (a : Int) (b : Int) = ((a + b : Nat) : Int) := by
  rw [u64_or_nat a b (by omega) (by omega), nat_join s a b ha hb]
theorem wrap3 (a b c r : Int) (h : a + b - c = r) (h0 : 0 ≤ r) (h1 : r < 18446744073709551616) : IntKind.u64.wrap (IntKind.u64.wrap (IntKind.u64.wrap a + b) - IntKind.u64.wrap c) = r := by
  simp only [IntKind.wrap_u64]
  omega

/-- What is shifted, in numbers. -/
theorem shifted {hi lo y s : Nat} (hs : s ≤ 63) (hl : lo < 18446744073709551616) (hy : hi < y) (hY : y * 2 ^ s < 18446744073709551616) :
    ∃ U L : Nat, bits .or .u64 (IntKind.u64.wrap ((hi : Int) * 2 ^ s)) ((lo : Int) / 2 ^ (64 - s)) = (U : Int) ∧ IntKind.u64.wrap ((lo : Int) * 2 ^ s) = (L : Int) ∧ L < 18446744073709551616 ∧ U < y * 2 ^ s ∧
      (hi * 18446744073709551616 + lo) * 2 ^ s = U * 18446744073709551616 + L := by
  have e64 : 2 ^ (64 - s) * 2 ^ s = 18446744073709551616 := by rw [← Nat.pow_add, show 64 - s + s = 64 by omega]
  have hp : 0 < 2 ^ s := Nat.pow_pos (by omega)
  have h2 : lo / 2 ^ (64 - s) < 2 ^ s := by
    rw [Nat.div_lt_iff_lt_mul (Nat.pow_pos (by omega)), Nat.mul_comm, e64]
    exact hl
  have h3 : (hi + 1) * 2 ^ s ≤ y * 2 ^ s := Nat.mul_le_mul_right _ hy
  rw [Nat.succ_mul] at h3
  refine ⟨hi * 2 ^ s + lo / 2 ^ (64 - s), lo * 2 ^ s % 18446744073709551616, ?_, ?_, Nat.mod_lt _ (by omega), by omega, ?_⟩
  · have e1 : (hi : Int) * 2 ^ s = ((hi * 2 ^ s : Nat) : Int) := by rw [Int.natCast_mul, Int.natCast_pow]; rfl
    have e2 : (lo : Int) / 2 ^ (64 - s) = ((lo / 2 ^ (64 - s) : Nat) : Int) := by rw [Int.natCast_ediv, Int.natCast_pow]; rfl
    rw [e1, e2, wrapN _ (by omega)]
    exact join64 _ _ s (Nat.mul_mod_left _ _) h2 (by omega)
  · have e1 : (lo : Int) * 2 ^ s = ((lo * 2 ^ s : Nat) : Int) := by rw [Int.natCast_mul, Int.natCast_pow]; rfl
    rw [e1, wrapM]
  · have e3 : lo * 2 ^ s / 18446744073709551616 = lo / 2 ^ (64 - s) := by
      rw [← e64, Nat.mul_div_mul_right _ _ hp]
    have e4 := Nat.div_add_mod (lo * 2 ^ s) 18446744073709551616
    rw [e3] at e4
    rw [Nat.add_mul, Nat.mul_right_comm]
    generalize hi * 2 ^ s = a at *
    generalize lo / 2 ^ (64 - s) = b at *
    generalize lo * 2 ^ s = c at *
    omega

/-- What holds of a guess q and its rest r. -/
structure Guess (A B D T U Y : Nat) (q r : Int) : Prop where
  q0 : 0 ≤ q
  r0 : 0 ≤ r
  eq : q.toNat * A + r.toNat = U
  le : T ≤ q.toNat
  q1 : q.toNat ≤ 4294967297
  hY : Y = A * 4294967296 + B
  hYp : 0 < Y
  hT : T = (U * 4294967296 + D) / Y
  hB : B < 4294967296
  hD : D < 4294967296

theorem nat_mul_wrap {q : Int} {B : Nat} (h0 : 0 ≤ q) (h1 : q < 4294967296) (hB : B < 4294967296) : IntKind.u64.wrap (q * (B : Int)) = ((q.toNat * B : Nat) : Int) := by
  obtain ⟨n, rfl⟩ := Int.eq_ofNat_of_zero_le h0
  have hle : n * B ≤ 4294967295 * 4294967295 := Nat.mul_le_mul (by omega) (by omega)
  rw [mulN, wrapN _ (by omega), Int.toNat_natCast]
theorem nat_sum_wrap {r : Int} {D : Nat} (h0 : 0 ≤ r) (h1 : r < 4294967296) (hD : D < 4294967296) : IntKind.u64.wrap (4294967296 * r + (D : Int)) = ((4294967296 * r.toNat + D : Nat) : Int) := by
  rw [IntKind.wrap_u64]
  omega

theorem Guess.big {A B D T U Y : Nat} {q r : Int} (h : Guess A B D T U Y q r) (hr : r < 4294967296) (hT : T < 4294967296)
    (hor : 4294967296 ≤ q ∨ (q < 4294967296 ∧ IntKind.u64.wrap (4294967296 * r + (D : Int)) < IntKind.u64.wrap (q * (B : Int)))) : T < q.toNat := by
  rcases hor with h1 | ⟨h1, h2⟩
  · omega
  · rw [nat_mul_wrap h.q0 h1 h.hB, nat_sum_wrap h.r0 hr h.hD] at h2
    rw [h.hT]
    exact Obol.guess_big h.hY h.hYp h.eq (by omega)

theorem Guess.fits {A B D T U Y : Nat} {q r : Int} (h : Guess A B D T U Y q r) (hr : r < 4294967296)
    (h1 : q < 4294967296) (h2 : IntKind.u64.wrap (q * (B : Int)) ≤ IntKind.u64.wrap (4294967296 * r + (D : Int))) : q = (T : Int) := by
  rw [nat_mul_wrap h.q0 h1 h.hB, nat_sum_wrap h.r0 hr h.hD] at h2
  have := Obol.guess_fits h.hY h.hYp h.eq (show q.toNat * B ≤ 4294967296 * r.toNat + D by omega)
  rw [← h.hT] at this
  have := h.le
  have := h.q0
  omega

theorem Guess.next {A B D T U Y : Nat} {q r : Int} (h : Guess A B D T U Y q r) (hlt : T < q.toNat) : Guess A B D T U Y (q - 1) (r + (A : Int)) := by
  have h0 := h.q0
  have h1 := h.r0
  have h2 := h.q1
  have h3 := h.eq
  have e1 : (q - 1).toNat + 1 = q.toNat := by omega
  have e2 : (r + (A : Int)).toNat = r.toNat + A := by omega
  refine ⟨by omega, by omega, ?_, by omega, by omega, h.hY, h.hYp, h.hT, h.hB, h.hD⟩
  rw [← e1, Nat.succ_mul] at h3
  omega

theorem Guess.over {A B D T U Y : Nat} {q r : Int} (h : Guess A B D T U Y q r) (hr : 4294967296 ≤ r) (hq : q.toNat ≤ 4294967296) : q = (T : Int) := by
  have := Obol.guess_fits h.hY h.hYp h.eq (Obol.guess_over (d := D) h.hB hq (by omega))
  rw [← h.hT] at this
  have := h.le
  have := h.q0
  omega

theorem wrap_pred {q : Int} (h0 : 1 ≤ q) (h1 : q ≤ 4294967297) : IntKind.u64.wrap (q - 1) = q - 1 := by rw [IntKind.wrap_u64]; omega

set_option maxRecDepth 100000 in
set_option maxHeartbeats 2000000 in
theorem div64_any (hi lo y s Y : Nat) (w : World) (h0 : 1 ≤ hi) (hy : hi < y) (hyl : y < 18446744073709551616) (hl : lo < 18446744073709551616) (hs : s ≤ 63) (Hs : Hid (64 - Lib.bitLen y = s))
    (HY : Hid (Y = y * 2 ^ s)) (hY1 : 9223372036854775808 ≤ Y) (hY2 : Y < 18446744073709551616) :
    Calls Try.prog 100 #[.int .u64 (hi : Int), .int .u64 (lo : Int), .int .u64 (y : Int)] w fun e w' =>
      ∃ q : Int, e = .returned (.tuple #[.int .u64 q, .int .u64 (((hi * 18446744073709551616 + lo) % y : Nat) : Int)]) ∧ w = w' := by
  have hz := lz64_any y w hyl
  rw [Hs.out] at hz
  have Hz := Lib.hid hz
  clear hz
  have f1 : ((y : Int) == 0) = false := by rw [beq_eq_false_iff_ne]; omega
  have f2 : (hi : Int) < (y : Int) := by omega
  have f3 : ((hi : Int) == 0) = false := by rw [beq_eq_false_iff_ne]; omega
  obtain ⟨U, L, r4, r5, hL, hU, heq⟩ := shifted hs hl hy (HY.out ▸ hY2)
  have Heq := Lib.hid heq
  clear heq
  rw [← HY.out] at hU
  have r1 : IntKind.u64.wrap ((y : Int) * 2 ^ s) = (Y : Int) := by
    have e1 : (y : Int) * 2 ^ s = ((y * 2 ^ s : Nat) : Int) := by rw [Int.natCast_mul, Int.natCast_pow]; rfl
    rw [e1, ← HY.out, wrapN _ hY2]
  obtain ⟨A, HA⟩ : ∃ A : Nat, Hid (A = Y / 4294967296) := ⟨_, rfl⟩
  obtain ⟨B0, HB⟩ : ∃ B : Nat, Hid (B = Y % 4294967296) := ⟨_, rfl⟩
  obtain ⟨D1, HD1⟩ : ∃ B : Nat, Hid (B = L / 4294967296) := ⟨_, rfl⟩
  obtain ⟨D0, HD0⟩ : ∃ B : Nat, Hid (B = L % 4294967296) := ⟨_, rfl⟩
  have a1 : 2147483648 ≤ A ∧ A < 4294967296 := by have := HA.out; omega
  have a2 : B0 < 4294967296 := by have := HB.out; omega
  have a3 : D1 < 4294967296 := by have := HD1.out; omega
  have a4 : D0 < 4294967296 := by have := HD0.out; omega
  have HYY : Hid (Y = A * 4294967296 + B0) := by have h1 := HA.out; have h2 := HB.out; show Y = _; omega
  have HL2 : Hid (L = D1 * 4294967296 + D0) := by have h1 := HD1.out; have h2 := HD0.out; show L = _; omega
  obtain ⟨Q, HQ⟩ : ∃ B : Nat, Hid (B = U / A) := ⟨_, rfl⟩
  obtain ⟨RH, HR⟩ : ∃ B : Nat, Hid (B = U % A) := ⟨_, rfl⟩
  have HQR : Hid (Q * A + RH = U) := by have := Nat.div_add_mod U A; rw [Nat.mul_comm, ← HQ.out, ← HR.out] at this; exact this
  have q1 : Q ≤ 4294967297 := by rw [HQ.out]; exact Obol.guess_near HYY.out a2 (by omega) hU
  have q2 : RH < 4294967296 := by have := Nat.mod_lt U (show 0 < A by omega); rw [← HR.out] at this; omega
  have hYp : 0 < Y := by omega
  obtain ⟨T1, HT1⟩ : ∃ B : Nat, Hid (B = (U * 4294967296 + D1) / Y) := ⟨_, rfl⟩
  have t1 : T1 < 4294967296 := by rw [HT1.out]; exact Obol.digit_lt a3 hU
  have t2 : T1 ≤ Q := by rw [HT1.out, HQ.out]; exact Obol.guess_le HYY.out (by omega) a3
  -- the walk's numbers, as whole numbers with names of their own
  obtain ⟨Ai, hA0⟩ : ∃ z : Int, z = (A : Int) := ⟨_, rfl⟩
  obtain ⟨Bi, hB0⟩ : ∃ z : Int, z = (B0 : Int) := ⟨_, rfl⟩
  obtain ⟨D1i, hD10⟩ : ∃ z : Int, z = (D1 : Int) := ⟨_, rfl⟩
  obtain ⟨D0i, hD00⟩ : ∃ z : Int, z = (D0 : Int) := ⟨_, rfl⟩
  obtain ⟨Ui, hU0⟩ : ∃ z : Int, z = (U : Int) := ⟨_, rfl⟩
  obtain ⟨Yi, hY0⟩ : ∃ z : Int, z = (Y : Int) := ⟨_, rfl⟩
  obtain ⟨Li, hL0⟩ : ∃ z : Int, z = (L : Int) := ⟨_, rfl⟩
  obtain ⟨Qi, hQ0⟩ : ∃ z : Int, z = (Q : Int) := ⟨_, rfl⟩
  obtain ⟨Ri, hR0⟩ : ∃ z : Int, z = (RH : Int) := ⟨_, rfl⟩
  -- the second digit's
  obtain ⟨V, HV⟩ : ∃ B : Nat, Hid (B = (U * 4294967296 + D1) % Y) := ⟨_, rfl⟩
  have v1 : V < Y := by rw [HV.out]; exact Nat.mod_lt _ hYp
  obtain ⟨Q2, HQ2⟩ : ∃ B : Nat, Hid (B = V / A) := ⟨_, rfl⟩
  obtain ⟨R2, HR2⟩ : ∃ B : Nat, Hid (B = V % A) := ⟨_, rfl⟩
  have HQR2 : Hid (Q2 * A + R2 = V) := by have := Nat.div_add_mod V A; rw [Nat.mul_comm, ← HQ2.out, ← HR2.out] at this; exact this
  have q3 : Q2 ≤ 4294967297 := by rw [HQ2.out]; exact Obol.guess_near HYY.out a2 (by omega) v1
  have q4 : R2 < 4294967296 := by have := Nat.mod_lt V (show 0 < A by omega); rw [← HR2.out] at this; omega
  obtain ⟨T0, HT0⟩ : ∃ B : Nat, Hid (B = (V * 4294967296 + D0) / Y) := ⟨_, rfl⟩
  have t3 : T0 < 4294967296 := by rw [HT0.out]; exact Obol.digit_lt a4 v1
  have t4 : T0 ≤ Q2 := by rw [HT0.out, HQ2.out]; exact Obol.guess_le HYY.out (by omega) a4
  obtain ⟨Z, HZ⟩ : ∃ B : Nat, Hid (B = (V * 4294967296 + D0) % Y) := ⟨_, rfl⟩
  have z1 : Z < Y := by rw [HZ.out]; exact Nat.mod_lt _ hYp
  obtain ⟨T1i, hT10⟩ : ∃ z : Int, z = (T1 : Int) := ⟨_, rfl⟩
  obtain ⟨T0i, hT00⟩ : ∃ z : Int, z = (T0 : Int) := ⟨_, rfl⟩
  obtain ⟨Vi, hV0⟩ : ∃ z : Int, z = (V : Int) := ⟨_, rfl⟩
  obtain ⟨Q2i, hQ20⟩ : ∃ z : Int, z = (Q2 : Int) := ⟨_, rfl⟩
  obtain ⟨R2i, hR20⟩ : ∃ z : Int, z = (R2 : Int) := ⟨_, rfl⟩
  obtain ⟨Zi, hZ0⟩ : ∃ z : Int, z = (Z : Int) := ⟨_, rfl⟩
  rw [← hU0] at r4
  rw [← hL0] at r5
  rw [← hY0] at r1
  have r2 : Yi / 4294967296 = Ai := by rw [hY0, hA0, HA.out]; omega
  have r3 : bits .and .u64 Yi 4294967295 = Bi := by rw [hY0, hB0, maskN Y hY2, HB.out]
  have r6 : Li / 4294967296 = D1i := by rw [hL0, hD10, HD1.out]; omega
  have r7 : bits .and .u64 Li 4294967295 = D0i := by rw [hL0, hD00, maskN L hL, HD0.out]
  have r8 : IntKind.u64.wrap (Ui / Ai) = Qi := by
    rw [hU0, hA0, hQ0, ← Int.natCast_ediv, ← HQ.out, wrapN _ (by omega)]
  have r8' : IntKind.u64.wrap (Ui.tdiv Ai) = Qi := by
    rw [Int.tdiv_eq_ediv_of_nonneg (by omega)]; exact r8
  have r9 : IntKind.u64.wrap (Ui - IntKind.u64.wrap (Qi * Ai)) = Ri := by
    have := HQR.out
    have hle : Q * A < 18446744073709551616 := by omega
    rw [hU0, hQ0, hA0, hR0, mulN, wrapN _ hle, show (U : Int) - ((Q * A : Nat) : Int) = (RH : Int) by omega, wrapN _ (by omega)]
  have r10 : IntKind.u64.wrap (IntKind.u64.wrap (IntKind.u64.wrap (Ui * 4294967296) + D1i) - IntKind.u64.wrap (T1i * Yi)) = Vi := by
    have h1 := Nat.div_add_mod (U * 4294967296 + D1) Y
    rw [← HT1.out, ← HV.out, Nat.mul_comm] at h1
    refine wrap3 _ _ _ _ ?_ (by omega) (by omega)
    rw [hT10, hY0, mulN, hU0, hD10, hV0]
    omega
  have r11 : IntKind.u64.wrap (Vi / Ai) = Q2i := by
    rw [hV0, hA0, hQ20, ← Int.natCast_ediv, ← HQ2.out, wrapN _ (by omega)]
  have r11' : IntKind.u64.wrap (Vi.tdiv Ai) = Q2i := by
    rw [Int.tdiv_eq_ediv_of_nonneg (by omega)]; exact r11
  have r12 : IntKind.u64.wrap (Vi - IntKind.u64.wrap (Q2i * Ai)) = R2i := by
    have := HQR2.out
    have hle : Q2 * A < 18446744073709551616 := by omega
    rw [hV0, hQ20, hA0, hR20, mulN, wrapN _ hle, show (V : Int) - ((Q2 * A : Nat) : Int) = (R2 : Int) by omega, wrapN _ (by omega)]
  have r13 : IntKind.u64.wrap (IntKind.u64.wrap (IntKind.u64.wrap (Vi * 4294967296) + D0i) - IntKind.u64.wrap (T0i * Yi)) = Zi := by
    have h1 := Nat.div_add_mod (V * 4294967296 + D0) Y
    rw [← HT0.out, ← HZ.out, Nat.mul_comm] at h1
    refine wrap3 _ _ _ _ ?_ (by omega) (by omega)
    rw [hT00, hY0, mulN, hV0, hD00, hZ0]
    omega
  have r14 : Hid (Zi / 2 ^ s = (((hi * 18446744073709551616 + lo) % y : Nat) : Int)) := by
    have h1 : Z = ((hi * 18446744073709551616 + lo) % y) * 2 ^ s := by
      have h2 : (U * 4294967296 + D1) * 4294967296 + D0 = U * 18446744073709551616 + L := by rw [HL2.out]; omega
      rw [HZ.out, HV.out, Obol.two_digits, h2, ← Nat.mul_mod_mul_right, Heq.out, ← HY.out]
    show _ = _
    rw [hZ0, h1, Int.natCast_mul, Int.natCast_pow]
    exact Int.mul_ediv_cancel _ (by have : (2 : Int) ^ s ≠ 0 := Int.pow_ne_zero (by omega); exact this)
  have i5 : 0 ≤ Vi := by omega
  have i1 : 0 ≤ Ai := by omega
  have i2 : 1 ≤ Ai := by omega
  have i3 : Ai < 4294967296 := by omega
  have i4 : 0 ≤ Ui := by omega
  have B := Lib.hid (And.intro a1 (And.intro a2 (And.intro a3 (And.intro a4 (And.intro t1 (And.intro t2 (And.intro q1 (And.intro q2 (And.intro hU (And.intro hL (And.intro hY1 (And.intro hY2 (And.intro hYp (And.intro q3 (And.intro q4 (And.intro t3 t4))))))))))))))))
  have E := Lib.hid (And.intro hA0 (And.intro hB0 (And.intro hD10 (And.intro hD00 (And.intro hU0 (And.intro hY0 (And.intro hL0 (And.intro hQ0 (And.intro hR0 (And.intro hT10 (And.intro hT00 (And.intro hV0 (And.intro hQ20 hR20)))))))))))))
  have F := Lib.hid (And.intro h0 (And.intro hy (And.intro hyl (And.intro hl hs))))
  clear a1 a2 a3 a4 t1 t2 q1 q2 hU hL hY1 hY2 hYp hA0 hB0 hD10 hD00 hU0 hY0 hL0 hQ0 hR0 h0 hyl hl v1 q3 q4 t3 t4 z1 hT10 hT00 hV0 hQ20 hR20 hZ0
  go_enter Try.func100, Try.ntmps100
  go_upto_block 0 with (go_at_call 103; refine Hz.out.mono ?_; rintro e w' ⟨rfl, rfl⟩)
  go_cut [15] (fun q wc => q = .int .u64 T1i ∧ w = wc)
  case first =>
    go_wp2_with fail
    clear r1 r2 r3 r4 r5 r6 r7 r8 r8' r9 r10 r11 r11' r12 r13 r14 f1 f2 f3
    have G0 : Guess A B0 D1 T1 U Y Qi Ri := by
      have e := E.out
      have b := B.out
      refine ⟨by omega, by omega, ?_, by omega, by omega, HYY.out, by omega, HT1.out, by omega, by omega⟩
      rw [e.2.2.2.2.2.2.2.1, e.2.2.2.2.2.2.2.2.1]
      exact HQR.out
    go_loop [15, 16] (fun q r => ∃ qn rn : Int, q = .int .u64 qn ∧ r = .int .u64 rn ∧ Guess A B0 D1 T1 U Y qn rn ∧ Hid (rn < 4294967296)) (fun q _ => (intOf q).toNat)
    case atStart => exact ⟨Qi, Ri, rfl, rfl, G0, by have e := E.out; have b := B.out; show Ri < _; omega⟩
    case round =>
      obtain ⟨qn, rn, rfl, rfl, Hq, Hr⟩ := hrel
      rename w = w => hww
      clear hww
      have j1 : 0 ≤ qn := Hq.q0
      have j2 : 0 ≤ rn := Hq.r0
      have j3 : rn < 4294967296 := Hr.out
      have j4 : qn ≤ 4294967297 := by have := Hq.q1; omega
      go_wp2_with fail
      · have k1 : qn < 4294967296 := by assumption
        have k2 : 4294967296 ≤ qn ∨ IntKind.u64.wrap (4294967296 * rn + D1i) < IntKind.u64.wrap (qn * Bi) := by assumption
        have k3 : 4294967296 ≤ rn + Ai := by assumption
        have e := E.out
        have b := B.out
        rw [e.2.1, e.2.2.1] at k2
        have hb := Hq.big Hr.out (by omega) (k2.imp_right fun h => ⟨k1, h⟩)
        have hn := (Hq.next hb).over (by omega) (by omega)
        go_meet
        exact ⟨by rw [wrap_pred (by omega) j4, hn, e.2.2.2.2.2.2.2.2.2.1], rfl⟩
      · have k1 : qn < 4294967296 := by assumption
        have k2 : 4294967296 ≤ qn ∨ IntKind.u64.wrap (4294967296 * rn + D1i) < IntKind.u64.wrap (qn * Bi) := by assumption
        have k3 : rn + Ai < 4294967296 := by assumption
        have e := E.out
        have b := B.out
        rw [e.2.1, e.2.2.1] at k2
        have hb := Hq.big Hr.out (by omega) (k2.imp_right fun h => ⟨k1, h⟩)
        go_round
        case rel => exact ⟨qn - 1, rn + Ai, by rw [wrap_pred (by omega) j4], rfl, by rw [e.1]; exact Hq.next hb, k3⟩
        case measure => simp only [intOf]; rw [wrap_pred (by omega) j4]; omega
      · have k2 : qn < 4294967296 ∧ IntKind.u64.wrap (qn * Bi) ≤ IntKind.u64.wrap (4294967296 * rn + D1i) := by assumption
        have e := E.out
        rw [e.2.1, e.2.2.1] at k2
        have hn := Hq.fits Hr.out k2.1 k2.2
        go_meet
        exact ⟨by rw [hn, e.2.2.2.2.2.2.2.2.2.1], rfl⟩
      · have k1 : 4294967296 ≤ qn := by assumption
        have k3 : 4294967296 ≤ rn + Ai := by assumption
        have e := E.out
        have b := B.out
        have hb := Hq.big Hr.out (by omega) (.inl k1)
        have hn := (Hq.next hb).over (by omega) (by omega)
        go_meet
        exact ⟨by rw [hn, e.2.2.2.2.2.2.2.2.2.1], rfl⟩
      · have k1 : ¬ qn < 4294967296 := by assumption
        have k3 : rn + Ai < 4294967296 := by assumption
        have e := E.out
        have b := B.out
        have hb := Hq.big Hr.out (by omega) (.inl (by omega))
        go_round
        case rel => exact ⟨qn - 1, rn + Ai, rfl, rfl, by rw [e.1]; exact Hq.next hb, k3⟩
        case measure => simp only [intOf]; omega
  case rest =>
    obtain ⟨rfl, rfl⟩ := hcut
    go_upto_block 2 with (fail)
    go_cut [18] (fun q wc => q = .int .u64 T0i ∧ w = wc)
    case first =>
      go_wp2_with fail
      clear r1 r2 r3 r4 r5 r6 r7 r8 r8' r9 r10 r11 r11' r12 r13 r14 f1 f2 f3
      have G0 : Guess A B0 D0 T0 V Y Q2i R2i := by
        have e := E.out
        have b := B.out
        refine ⟨by omega, by omega, ?_, by omega, by omega, HYY.out, by omega, HT0.out, by omega, by omega⟩
        rw [e.2.2.2.2.2.2.2.2.2.2.2.2.1, e.2.2.2.2.2.2.2.2.2.2.2.2.2]
        exact HQR2.out
      go_loop [18, 16] (fun q r => ∃ qn rn : Int, q = .int .u64 qn ∧ r = .int .u64 rn ∧ Guess A B0 D0 T0 V Y qn rn ∧ Hid (rn < 4294967296)) (fun q _ => (intOf q).toNat)
      case atStart => exact ⟨Q2i, R2i, rfl, rfl, G0, by have e := E.out; have b := B.out; show R2i < _; omega⟩
      case round =>
        obtain ⟨qn, rn, rfl, rfl, Hq, Hr⟩ := hrel
        rename w = w => hww
        clear hww
        have j1 : 0 ≤ qn := Hq.q0
        have j2 : 0 ≤ rn := Hq.r0
        have j3 : rn < 4294967296 := Hr.out
        have j4 : qn ≤ 4294967297 := by have := Hq.q1; omega
        go_wp2_with fail
        · have k1 : qn < 4294967296 := by assumption
          have k2 : 4294967296 ≤ qn ∨ IntKind.u64.wrap (4294967296 * rn + D0i) < IntKind.u64.wrap (qn * Bi) := by assumption
          have k3 : 4294967296 ≤ rn + Ai := by assumption
          have e := E.out
          have b := B.out
          rw [e.2.1, e.2.2.2.1] at k2
          have hb := Hq.big Hr.out (by omega) (k2.imp_right fun h => ⟨k1, h⟩)
          have hn := (Hq.next hb).over (by omega) (by omega)
          go_meet
          exact ⟨by rw [wrap_pred (by omega) j4, hn, e.2.2.2.2.2.2.2.2.2.2.1], rfl⟩
        · have k1 : qn < 4294967296 := by assumption
          have k2 : 4294967296 ≤ qn ∨ IntKind.u64.wrap (4294967296 * rn + D0i) < IntKind.u64.wrap (qn * Bi) := by assumption
          have k3 : rn + Ai < 4294967296 := by assumption
          have e := E.out
          have b := B.out
          rw [e.2.1, e.2.2.2.1] at k2
          have hb := Hq.big Hr.out (by omega) (k2.imp_right fun h => ⟨k1, h⟩)
          go_round
          case rel => exact ⟨qn - 1, rn + Ai, by rw [wrap_pred (by omega) j4], rfl, by rw [e.1]; exact Hq.next hb, k3⟩
          case measure => simp only [intOf]; rw [wrap_pred (by omega) j4]; omega
        · have k2 : qn < 4294967296 ∧ IntKind.u64.wrap (qn * Bi) ≤ IntKind.u64.wrap (4294967296 * rn + D0i) := by assumption
          have e := E.out
          rw [e.2.1, e.2.2.2.1] at k2
          have hn := Hq.fits Hr.out k2.1 k2.2
          go_meet
          exact ⟨by rw [hn, e.2.2.2.2.2.2.2.2.2.2.1], rfl⟩
        · have k1 : 4294967296 ≤ qn := by assumption
          have k3 : 4294967296 ≤ rn + Ai := by assumption
          have e := E.out
          have b := B.out
          have hb := Hq.big Hr.out (by omega) (.inl k1)
          have hn := (Hq.next hb).over (by omega) (by omega)
          go_meet
          exact ⟨by rw [hn, e.2.2.2.2.2.2.2.2.2.2.1], rfl⟩
        · have k1 : ¬ qn < 4294967296 := by assumption
          have k3 : rn + Ai < 4294967296 := by assumption
          have e := E.out
          have b := B.out
          have hb := Hq.big Hr.out (by omega) (.inl (by omega))
          go_round
          case rel => exact ⟨qn - 1, rn + Ai, rfl, rfl, by rw [e.1]; exact Hq.next hb, k3⟩
          case measure => simp only [intOf]; omega
    case rest =>
      obtain ⟨rfl, rfl⟩ := hcut
      go_wp2_with fail
      go_ret2
      rw [r14.out]
      exact ⟨_, rfl, rfl⟩

theorem div64_low (lo y : Nat) (w : World) (hy : 0 < y) :
    Calls Try.prog 100 #[.int .u64 0, .int .u64 (lo : Int), .int .u64 (y : Int)] w fun e w' =>
      ∃ q : Int, e = .returned (.tuple #[.int .u64 q, .int .u64 ((lo % y : Nat) : Int)]) ∧ ∃ n, w' = w.drewN n := by
  have f1 : ((y : Int) == 0) = false := by rw [beq_eq_false_iff_ne]; omega
  have f2 : (0 : Int) < (y : Int) := by omega
  go_enter Try.func100, Try.ntmps100
  go_wp2_with fail
  go_quiet (fail)
  go_wp2_with fail
  go_ret2
  exact ⟨_, rfl, _, rfl⟩

theorem div64_ok (hi lo y : Nat) (w : World) (hy : hi < y) (hyl : y < 18446744073709551616) (hl : lo < 18446744073709551616) :
    Calls Try.prog 100 #[.int .u64 (hi : Int), .int .u64 (lo : Int), .int .u64 (y : Int)] w fun e w' =>
      ∃ q : Int, e = .returned (.tuple #[.int .u64 q, .int .u64 (((hi * 18446744073709551616 + lo) % y : Nat) : Int)]) ∧ ∃ n, w' = w.drewN n := by
  by_cases h0 : hi = 0
  · subst h0
    rw [Nat.zero_mul, Nat.zero_add]
    exact div64_low lo y w hy
  · obtain ⟨b1, b2, b3⟩ := Lib.bitLenAux_bounds 64 y (by simpa using hyl) (by omega)
    have e1 : Lib.bitLen y = Lib.bitLenAux 64 y := rfl
    rw [← e1] at b1 b2 b3
    have b4 := bitLen_le64 y hyl
    have p1 : 2 ^ (Lib.bitLen y - 1) * 2 ^ (64 - Lib.bitLen y) = 9223372036854775808 := by
      rw [← Nat.pow_add, show Lib.bitLen y - 1 + (64 - Lib.bitLen y) = 63 by omega]
    have p2 : 2 ^ Lib.bitLen y * 2 ^ (64 - Lib.bitLen y) = 18446744073709551616 := by
      rw [← Nat.pow_add, show Lib.bitLen y + (64 - Lib.bitLen y) = 64 by omega]
    have q1 : 9223372036854775808 ≤ y * 2 ^ (64 - Lib.bitLen y) := by rw [← p1]; exact Nat.mul_le_mul_right _ b2
    have q2 : y * 2 ^ (64 - Lib.bitLen y) < 18446744073709551616 := by rw [← p2]; exact Nat.mul_lt_mul_of_pos_right b3 (Nat.pow_pos (by omega))
    refine (div64_any hi lo y (64 - Lib.bitLen y) (y * 2 ^ (64 - Lib.bitLen y)) w (by omega) hy hyl hl (by omega) (Lib.hid rfl) (Lib.hid rfl) q1 q2).mono ?_
    rintro e w' ⟨q, he, rfl⟩
    exact ⟨q, he, 0, rfl⟩

end Go.Proofs.Ytkfimfjjmdjbdaa
/- The references' loops over bits: products by doubling, powers from the highest bit on. -/
namespace Obol

/-- What package modular reckons: names of their own, so that nothing looks inside. -/
def mulM (m a b : Nat) : Nat := a * b % m
def addM (m a b : Nat) : Nat := (a + b) % m
def subM (m a b : Nat) : Nat := (a % m + m - b % m) % m
def powM (m a e : Nat) : Nat := a ^ e % m

/-- A sum below m, by the subtraction that never goes round. -/
theorem add_mod_by {m a b : Nat} (ha : a < m) (hb : b < m) : (if m - b ≤ a then a - (m - b) else a + b) = (a + b) % m := by
  split
  · rename_i h
    rw [Nat.mod_eq_sub_mod (by omega), Nat.mod_eq_of_lt (by omega)]
    omega
  · rw [Nat.mod_eq_of_lt (by omega)]

theorem high_step (y i : Nat) (hi : i < 64) : y / 2 ^ (64 - (i + 1)) = 2 * (y / 2 ^ (64 - i)) + y / 2 ^ (63 - i) % 2 := by
  have e1 : 64 - (i + 1) = 63 - i := by omega
  have e2 : 64 - i = (63 - i) + 1 := by omega
  rw [e1, e2, Nat.pow_succ, ← Nat.div_div_eq_div_mul]
  omega

/-- A product's next step. -/
theorem mul_step (m x y i : Nat) (hi : i < 64) :
    ((y / 2 ^ (64 - i) * x % m + y / 2 ^ (64 - i) * x % m) % m + (if y / 2 ^ (63 - i) % 2 = 1 then x % m else 0)) % m = y / 2 ^ (64 - (i + 1)) * x % m := by
  rw [high_step y i hi]
  have hb : y / 2 ^ (63 - i) % 2 = 0 ∨ y / 2 ^ (63 - i) % 2 = 1 := by omega
  generalize y / 2 ^ (64 - i) = q at *
  rcases hb with e | e
  · rw [if_neg (by omega), e, Nat.add_zero, Nat.add_zero, Nat.mod_mod, ← Nat.add_mod, ← Nat.add_mul, Nat.two_mul]
  · rw [if_pos e, e, ← Nat.add_mod, Nat.add_mul, Nat.one_mul, Nat.mul_assoc, Nat.two_mul]
    rw [Nat.add_mod, ← Nat.add_mod (q * x) (q * x), ← Nat.add_mod]

/-- A power's next step. -/
theorem pow_step (m a e i : Nat) (hi : i < 64) :
    (if e / 2 ^ (63 - i) % 2 = 1 then (a ^ (e / 2 ^ (64 - i)) % m) * (a ^ (e / 2 ^ (64 - i)) % m) % m * a % m else (a ^ (e / 2 ^ (64 - i)) % m) * (a ^ (e / 2 ^ (64 - i)) % m) % m) =
      a ^ (e / 2 ^ (64 - (i + 1))) % m := by
  rw [high_step e i hi]
  have hb : e / 2 ^ (63 - i) % 2 = 0 ∨ e / 2 ^ (63 - i) % 2 = 1 := by omega
  generalize e / 2 ^ (64 - i) = q at *
  have hs : (a ^ q % m) * (a ^ q % m) % m = a ^ (2 * q) % m := by rw [← Nat.mul_mod, ← Nat.pow_add, Nat.two_mul]
  rw [hs]
  rcases hb with e | e
  · rw [if_neg (by omega), e, Nat.add_zero]
  · rw [if_pos e, e, Nat.mul_mod, Nat.mod_mod, ← Nat.mul_mod, ← Nat.pow_succ]

/-- Low bits first: what is gathered, times what is left. -/
theorem low_pow (m a e out : Nat) (_he : e ≠ 0) :
    (if e % 2 = 1 then out * a % m else out) * (a * a % m) ^ (e / 2) % m = out * a ^ e % m := by
  have h2 : (a * a) ^ (e / 2) = a ^ (2 * (e / 2)) := by rw [Nat.pow_mul, Nat.pow_two]
  rw [Nat.mul_mod, ← Nat.pow_mod, ← Nat.mul_mod, h2]
  split
  · rename_i h
    rw [Nat.mul_mod, Nat.mod_mod, ← Nat.mul_mod, Nat.mul_assoc, ← Nat.pow_succ']
    congr 3
    omega
  · congr 3
    omega

end Obol
/- Walks: package modular: sums, differences, products. -/
namespace Go.Proofs.Ytkfimfjjmdjbdaa
open Go.RowKit

theorem no_ok (m : Int) (h0 : 2 ≤ m) (h1 : m ≤ 4611686018427387904) (w : World) :
    Calls Try.prog 91 #[.int .u64 m] w fun e w' => e = .returned (.bool false) ∧ w = w' := by
  go_enter Try.func91, Try.ntmps91
  go_wp2
  go_ret
  refine ⟨?_, rfl⟩
  show Ending.returned (.bool (decide (m < 2) || decide (4611686018427387904 < m))) = _
  rw [decide_eq_false (by omega), decide_eq_false (by omega)]
  rfl

/-- What the sum and the difference come to, as the walk spells them. -/
theorem end_add (m a b : Int) (h0 : 2 ≤ m) (h1 : m ≤ 4611686018427387904) (ha : 0 ≤ a) (hb : 0 ≤ b) :
    (IntKind.u64.wrap (a % m + b % m)).tmod m = ((Obol.addM m.toNat a.toNat b.toNat : Nat) : Int) := by
  have h2 := Int.emod_nonneg a (show m ≠ 0 by omega)
  have h3 := Int.emod_lt_of_pos a (show 0 < m by omega)
  have h4 := Int.emod_nonneg b (show m ≠ 0 by omega)
  have h5 := Int.emod_lt_of_pos b (show 0 < m by omega)
  rw [IntKind.wrap_u64, Int.emod_eq_of_lt (by omega) (by omega), Int.tmod_eq_emod_of_nonneg (by omega), ← Int.add_emod, Obol.addM, Int.natCast_emod, Int.natCast_add, Int.toNat_of_nonneg ha, Int.toNat_of_nonneg hb, Int.toNat_of_nonneg (by omega)]
theorem end_sub (m a b : Int) (h0 : 2 ≤ m) (h1 : m ≤ 4611686018427387904) (ha : 0 ≤ a) (hb : 0 ≤ b) :
    (IntKind.u64.wrap (IntKind.u64.wrap (a % m + m) - b % m)).tmod m = ((Obol.subM m.toNat a.toNat b.toNat : Nat) : Int) := by
  have h2 := Int.emod_nonneg a (show m ≠ 0 by omega)
  have h3 := Int.emod_lt_of_pos a (show 0 < m by omega)
  have h4 := Int.emod_nonneg b (show m ≠ 0 by omega)
  have h5 := Int.emod_lt_of_pos b (show 0 < m by omega)
  have e1 : (((a.toNat % m.toNat : Nat)) : Int) = a % m := by rw [Int.natCast_emod, Int.toNat_of_nonneg ha, Int.toNat_of_nonneg (by omega)]
  have e2 : (((b.toNat % m.toNat : Nat)) : Int) = b % m := by rw [Int.natCast_emod, Int.toNat_of_nonneg hb, Int.toNat_of_nonneg (by omega)]
  rw [IntKind.wrap_u64 (a % m + m), Int.emod_eq_of_lt (by omega) (by omega), IntKind.wrap_u64, Int.emod_eq_of_lt (by omega) (by omega), Int.tmod_eq_emod_of_nonneg (by omega), Obol.subM, Int.natCast_emod, Int.natCast_sub (by omega), Int.natCast_add, e1, e2, Int.toNat_of_nonneg (by omega)]

theorem mAdd (m a b : Int) (h0 : 2 ≤ m) (h1 : m ≤ 4611686018427387904) (ha : 0 ≤ a) (hb : 0 ≤ b) (w : World) :
    Calls Try.prog 68 #[.int .u64 m, .int .u64 a, .int .u64 b] w fun e w' => e = .returned (.int .u64 ((Obol.addM m.toNat a.toNat b.toNat : Nat) : Int)) ∧ ∃ n, w' = w.drewN n := by
  have he := Lib.hid (end_add m a b h0 h1 ha hb)
  go_enter Try.func68, Try.ntmps68
  go_wp2_with (go_at_call 91; refine (no_ok _ h0 h1 _).mono ?_; rintro e w' ⟨rfl, rfl⟩)
  go_quiet (fail)
  go_wp2
  go_ret
  exact ⟨ret_u64 he.out, _, rfl⟩

theorem mSub (m a b : Int) (h0 : 2 ≤ m) (h1 : m ≤ 4611686018427387904) (ha : 0 ≤ a) (hb : 0 ≤ b) (w : World) :
    Calls Try.prog 67 #[.int .u64 m, .int .u64 a, .int .u64 b] w fun e w' => e = .returned (.int .u64 ((Obol.subM m.toNat a.toNat b.toNat : Nat) : Int)) ∧ ∃ n, w' = w.drewN n := by
  have he := Lib.hid (end_sub m a b h0 h1 ha hb)
  go_enter Try.func67, Try.ntmps67
  go_wp2_with (go_at_call 91; refine (no_ok _ h0 h1 _).mono ?_; rintro e w' ⟨rfl, rfl⟩)
  go_quiet (fail)
  go_wp2
  go_ret
  exact ⟨ret_u64 he.out, _, rfl⟩

theorem mMul (m a b : Int) (h0 : 2 ≤ m) (h1 : m ≤ 4611686018427387904) (ha : 0 ≤ a) (hb : 0 ≤ b) (w : World) :
    Calls Try.prog 90 #[.int .u64 m, .int .u64 a, .int .u64 b] w fun e w' => e = .returned (.int .u64 ((Obol.mulM m.toNat a.toNat b.toNat : Nat) : Int)) ∧ ∃ n, w' = w.drewN n := by
  obtain ⟨M, hM⟩ := Int.eq_ofNat_of_zero_le (show 0 ≤ m by omega)
  obtain ⟨A, hA⟩ := Int.eq_ofNat_of_zero_le ha
  obtain ⟨B, hB⟩ := Int.eq_ofNat_of_zero_le hb
  have hm0 : 0 < M := by omega
  have la := Nat.mod_lt A hm0
  have lb := Nat.mod_lt B hm0
  have hlt : A % M * (B % M) < M * M := Nat.mul_lt_mul'' la lb
  have hmm : M * M ≤ M * 18446744073709551616 := Nat.mul_le_mul_left _ (by omega)
  have hhi : A % M * (B % M) / 18446744073709551616 < M := by rw [Nat.div_lt_iff_lt_mul (by omega)]; omega
  have c1 := fun w => mul64_any (A % M) (B % M) (by omega) (by omega) w
  have c2 := fun w => div64_ok (A % M * (B % M) / 18446744073709551616) (A % M * (B % M) % 18446744073709551616) M w hhi (by omega) (Nat.mod_lt _ (by omega))
  rw [show A % M * (B % M) / 18446744073709551616 * 18446744073709551616 + A % M * (B % M) % 18446744073709551616 = A % M * (B % M) from by rw [Nat.mul_comm]; exact Nat.div_add_mod _ _, ← Nat.mul_mod] at c2
  have hr : ((A * B % M : Nat) : Int) = ((Obol.mulM m.toNat a.toNat b.toNat : Nat) : Int) := by rw [hM, hA, hB]; rfl
  rw [hr] at c2
  generalize hH : A % M * (B % M) / 18446744073709551616 = H at c1 c2
  generalize hL : A % M * (B % M) % 18446744073709551616 = L at c1 c2
  rw [← hM] at c2
  have e1 : a % m = ((A % M : Nat) : Int) := by rw [hA, hM]; rfl
  have e2 : b % m = ((B % M : Nat) : Int) := by rw [hB, hM]; rfl
  generalize ((A % M : Nat) : Int) = X at c1 e1
  generalize ((B % M : Nat) : Int) = Y at c1 e2
  have e3 : a.tmod m = X := by rw [Int.tmod_eq_emod_of_nonneg ha]; exact e1
  have e4 : b.tmod m = Y := by rw [Int.tmod_eq_emod_of_nonneg hb]; exact e2
  have C1 := Lib.hid c1
  have C2 := Lib.hid c2
  have HN := Lib.hid (fun w => no_ok m h0 h1 w)
  have hz : ¬ m = 0 := by omega
  have hz2 : (m == 0) = false := by rw [beq_eq_false_iff_ne]; omega
  clear c1 c2 hlt hmm hhi la lb hM hA hB hm0 hH hL
  go_enter Try.func90, Try.ntmps90
  go_wp2_with (go_at_call 91; refine (HN.out _).mono ?_; rintro e w' ⟨rfl, rfl⟩)
  go_quiet ((go_at_call 99; exact q_same (C1.out _)))
  go_wp2_with (go_at_call 100; refine (C2.out _).mono ?_; rintro e w' ⟨q, rfl, n, rfl⟩)
  go_ret
  exact ⟨rfl, _, rfl⟩

end Go.Proofs.Ytkfimfjjmdjbdaa
/- Walks: package modular: powers. -/
namespace Go.Proofs.Ytkfimfjjmdjbdaa
open Go.RowKit

structure PowInv (M A E : Nat) (O X en : Int) : Prop where
  o0 : 0 ≤ O
  x0 : 0 ≤ X
  e0 : 0 ≤ en
  e1 : en ≤ 18446744073709551615
  lt : O.toNat < M
  eq : O.toNat * X.toNat ^ en.toNat % M = A ^ E % M

theorem PowInv.one {M A E : Nat} {O X en : Int} (h : PowInv M A E O X en) (hp : 0 < en) (ho : en % 2 = 1) :
    PowInv M A E ((Obol.mulM M O.toNat X.toNat : Nat) : Int) ((Obol.mulM M X.toNat X.toNat : Nat) : Int) (en / 2) := by
  have h0 := h.e0
  have h1 := h.e1
  have hM : 0 < M := Nat.lt_of_le_of_lt (Nat.zero_le _) h.lt
  refine ⟨by omega, by omega, by omega, by omega, by rw [Int.toNat_natCast]; exact Nat.mod_lt _ hM, ?_⟩
  have := Obol.low_pow M X.toNat en.toNat O.toNat (by omega)
  rw [if_pos (by omega)] at this
  rw [Int.toNat_natCast, Int.toNat_natCast, show (en / 2).toNat = en.toNat / 2 by omega]
  exact this.trans h.eq
theorem PowInv.zero {M A E : Nat} {O X en : Int} (h : PowInv M A E O X en) (hp : 0 < en) (ho : en % 2 = 0) :
    PowInv M A E O ((Obol.mulM M X.toNat X.toNat : Nat) : Int) (en / 2) := by
  have h0 := h.e0
  have h1 := h.e1
  have ho0 := h.o0
  refine ⟨ho0, by omega, by omega, by omega, h.lt, ?_⟩
  have := Obol.low_pow M X.toNat en.toNat O.toNat (by omega)
  rw [if_neg (by omega)] at this
  rw [Int.toNat_natCast, show (en / 2).toNat = en.toNat / 2 by omega]
  exact this.trans h.eq
theorem PowInv.done {M A E : Nat} {O X en : Int} (h : PowInv M A E O X en) (hp : en = 0) : O = ((Obol.powM M A E : Nat) : Int) := by
  have h1 := h.eq
  have h2 := h.o0
  rw [hp, show (0 : Int).toNat = 0 from rfl, Nat.pow_zero, Nat.mul_one, Nat.mod_eq_of_lt h.lt] at h1
  rw [Obol.powM, ← h1]
  omega

set_option maxHeartbeats 1000000 in
theorem mPow (m a x : Int) (h0 : 2 ≤ m) (h1 : m ≤ 4611686018427387904) (ha : 0 ≤ a) (hx : 0 ≤ x) (hx1 : x ≤ 18446744073709551615) (w : World) :
    Calls Try.prog 71 #[.int .u64 m, .int .u64 a, .int .u64 x] w fun e w' => e = .returned (.int .u64 ((Obol.powM m.toNat a.toNat x.toNat : Nat) : Int)) ∧ ∃ n, w' = w.drewN n := by
  have i0 : PowInv m.toNat a.toNat x.toNat 1 (a % m) x := by
    refine ⟨by omega, Int.emod_nonneg a (by omega), hx, hx1, by omega, ?_⟩
    rw [show (1 : Int).toNat = 1 from rfl, Nat.one_mul, Int.toNat_emod ha (by omega), ← Nat.pow_mod]
  have I0 := Lib.hid i0
  clear i0
  go_enter Try.func71, Try.ntmps71
  go_wp2_with (go_at_call 91; refine (no_ok _ h0 h1 _).mono ?_; rintro e w' ⟨rfl, rfl⟩)
  go_loopw [7, 1, 2] (fun o b e wr => ∃ O X en : Int, o = .int .u64 O ∧ b = .int .u64 X ∧ e = .int .u64 en ∧ Hid (PowInv m.toNat a.toNat x.toNat O X en) ∧ ∃ n, wr = w.drewN n) (fun _ _ e _ => (intOf e).toNat)
  case atStart => exact ⟨1, a % m, x, rfl, rfl, rfl, I0, 0, rfl⟩
  case round =>
    obtain ⟨O, X, en, rfl, rfl, rfl, HI, n, rfl⟩ := hrel
    have j1 := HI.out.o0
    have j2 := HI.out.x0
    have j3 := HI.out.e0
    have j4 := HI.out.e1
    have ea := and_one_u64 en j3 j4
    by_cases hp : 0 < en
    · by_cases ho : en % 2 = 1
      · have HN := Lib.hid (HI.out.one hp ho)
        go_wp2_with (go_at_call 90; refine (mMul _ _ _ h0 h1 (by omega) (by omega) _).mono ?_; rintro e w' ⟨rfl, n', rfl⟩)
        go_roundw
        case rel => exact ⟨_, _, _, rfl, rfl, rfl, HN, _, rfl⟩
        case measure => simp [intOf]; omega
      · have ho' : en % 2 = 0 := by omega
        have HN := Lib.hid (HI.out.zero hp ho')
        clear ho
        go_wp2_with (go_at_call 90; refine (mMul _ _ _ h0 h1 (by omega) (by omega) _).mono ?_; rintro e w' ⟨rfl, n', rfl⟩)
        go_roundw
        case rel => exact ⟨_, _, _, rfl, rfl, rfl, HN, _, rfl⟩
        case measure => simp [intOf]; omega
    · have HD := Lib.hid (HI.out.done (by omega))
      go_wp2_with (fail)
      go_ret
      exact ⟨ret_u64 HD.out, _, rfl⟩

end Go.Proofs.Ytkfimfjjmdjbdaa
/- Numbers: the pigeonhole, powers modulo a number, and that a number with a root of full order is a prime (Lucas). No program in sight. -/
namespace Obol

theorem pigeon : ∀ (m n : Nat) (f : Nat → Nat), (∀ i, i < n → f i < m) → (∀ i j, i < n → j < n → f i = f j → i = j) → n ≤ m
  | 0, n, f, hf, _ => by
    cases n with
    | zero => exact Nat.le_refl _
    | succ n => exact absurd (hf 0 (by omega)) (by omega)
  | m + 1, n, f, hf, hi => by
    cases n with
    | zero => omega
    | succ n =>
      have h := pigeon m n (fun i => if f i = m then f n else f i)
        (fun i hin => by
          show (if f i = m then f n else f i) < m
          have h1 := hf i (by omega)
          have h2 := hf n (by omega)
          split
          · rename_i he
            have : f n ≠ m := fun e => by
              have := hi i n (by omega) (by omega) (he.trans e.symm)
              omega
            omega
          · omega)
        (fun i j hin hjn he => by
          have he : (if f i = m then f n else f i) = (if f j = m then f n else f j) := he
          split at he
          · split at he
            · rename_i a b
              exact hi i j (by omega) (by omega) (a.trans b.symm)
            · have := hi n j (by omega) (by omega) he
              omega
          · split at he
            · have := hi i n (by omega) (by omega) he
              omega
            · exact hi i j (by omega) (by omega) he)
      omega

theorem onto (n : Nat) (f : Nat → Nat) (hf : ∀ i, i < n → f i < n) (hi : ∀ i j, i < n → j < n → f i = f j → i = j) (v : Nat) (hv : v < n) : ∃ i, i < n ∧ f i = v := by
  refine Classical.byContradiction fun hno => ?_
  have hno : ∀ i, i < n → f i ≠ v := fun i hin e => hno ⟨i, hin, e⟩
  have h := pigeon n (n + 1) (fun i => if i < n then f i else v)
    (fun i hin => by
      show (if i < n then f i else v) < n
      split
      · rename_i h; exact hf i h
      · exact hv)
    (fun i j hin hjn he => by
      have he : (if i < n then f i else v) = (if j < n then f j else v) := he
      split at he
      · split at he
        · rename_i a b; exact hi i j a b he
        · rename_i a b; exact absurd he (hno i a)
      · split at he
        · rename_i a b; exact absurd he.symm (hno j b)
        · omega)
  omega

/-! powers modulo a number -/
def powm (m : Nat) : Nat → Nat → Nat → Nat
  | 0, _, _ => 1 % m
  | f + 1, a, e => if e = 0 then 1 % m else if e % 2 = 1 then a * powm m f (a * a % m) (e / 2) % m else powm m f (a * a % m) (e / 2)

theorem powm_eq (m : Nat) : ∀ (f a e : Nat), e < 2 ^ f → powm m f a e = a ^ e % m
  | 0, a, e, h => by
    have : e = 0 := by simpa using h
    subst this
    rfl
  | f + 1, a, e, h => by
    have ih := powm_eq m f (a * a % m) (e / 2) (by rw [Nat.pow_succ] at h; omega)
    have hsq : (a * a % m) ^ (e / 2) % m = a ^ (2 * (e / 2)) % m := by
      rw [← Nat.pow_mod, Nat.pow_mul, Nat.pow_two]
    unfold powm
    by_cases h0 : e = 0
    · rw [if_pos h0, h0, Nat.pow_zero]
    · rw [if_neg h0, ih, hsq]
      by_cases h1 : e % 2 = 1
      · rw [if_pos h1, Nat.mul_mod, Nat.mod_mod, ← Nat.mul_mod, Nat.mul_comm, ← Nat.pow_succ]
        congr 2
        omega
      · rw [if_neg h1]
        congr 2
        omega

/-- No number from k on, below k + f, divides q. -/
def none : Nat → Nat → Nat → Bool
  | 0, _, _ => true
  | f + 1, k, q => q % k != 0 && none f (k + 1) q

theorem none_spec : ∀ (f k q : Nat), none f k q = true → ∀ d, k ≤ d → d < k + f → q % d ≠ 0
  | 0, k, q, _, d, h1, h2 => by omega
  | f + 1, k, q, h, d, h1, h2 => by
    unfold none at h
    simp only [Bool.and_eq_true, bne_iff_ne, ne_eq] at h
    by_cases e : d = k
    · rw [e]; exact h.1
    · exact none_spec f (k + 1) q h.2 d (by omega) (by omega)

/-- A number whose divisors are 1 and it. -/
def Prm (q : Nat) : Prop := 1 < q ∧ ∀ d, d ∣ q → d = 1 ∨ d = q

theorem prm_of (f q : Nat) (h1 : 1 < q) (h : none f 2 q = true) (hs : q < (f + 2) * (f + 2)) : Prm q := by
  refine ⟨h1, fun d hd => ?_⟩
  obtain ⟨c, hc⟩ := hd
  have hn := none_spec f 2 q h
  by_cases hd1 : d = 1
  · exact .inl hd1
  by_cases hdq : d = q
  · exact .inr hdq
  exfalso
  have hd0 : 0 < d := by
    rcases Nat.eq_zero_or_pos d with e | e
    · rw [e, Nat.zero_mul] at hc; omega
    · exact e
  have hc0 : 0 < c := by
    rcases Nat.eq_zero_or_pos c with e | e
    · rw [e, Nat.mul_zero] at hc; omega
    · exact e
  have hc1 : c ≠ 1 := fun e => hdq (by rw [hc, e, Nat.mul_one])
  have hmd : q % d = 0 := by rw [hc]; exact Nat.mul_mod_right d c
  have hmc : q % c = 0 := by rw [hc]; exact Nat.mul_mod_left d c
  have a1 : f + 2 ≤ d := Nat.le_of_not_lt fun hlt => hn d (by omega) (by omega) hmd
  have a2 : f + 2 ≤ c := Nat.le_of_not_lt fun hlt => hn c (by omega) (by omega) hmc
  have := Nat.mul_le_mul a1 a2
  omega

theorem prm_coprime {q m : Nat} (hq : Prm q) (h : ¬ q ∣ m) : Nat.Coprime q m := by
  rcases hq.2 (Nat.gcd q m) (Nat.gcd_dvd_left q m) with e | e
  · exact e
  · exact absurd (e ▸ Nat.gcd_dvd_right q m) h

theorem prm_in : ∀ (l : List Nat), (∀ q, q ∈ l → Prm q) → ∀ m, 1 < m → m ∣ l.foldr (· * ·) 1 → ∃ q, q ∈ l ∧ q ∣ m
  | [], _, m, h1, h => by
    have : m = 1 := Nat.dvd_one.1 h
    omega
  | q :: l, hl, m, h1, h => by
    by_cases hq : q ∣ m
    · exact ⟨q, List.mem_cons_self .., hq⟩
    · have hc := prm_coprime (hl q (List.mem_cons_self ..)) hq
      obtain ⟨p, hp, hpm⟩ := prm_in l (fun p hp => hl p (List.mem_cons_of_mem _ hp)) m h1 (Nat.Coprime.dvd_of_dvd_mul_left hc.symm h)
      exact ⟨p, List.mem_cons_of_mem _ hp, hpm⟩

theorem one_mod {N : Nat} (h : 1 < N) : 1 % N = 1 := Nat.mod_eq_of_lt h

theorem pow_mul_one {N g a : Nat} (hN : 1 < N) (h : g ^ a % N = 1) (b : Nat) : g ^ (a * b) % N = 1 := by
  rw [Nat.pow_mul, Nat.pow_mod, h, Nat.one_pow, one_mod hN]

theorem pow_add_one {N g a : Nat} (h : g ^ a % N = 1) (b : Nat) : g ^ (a + b) % N = g ^ b % N := by
  rw [Nat.pow_add, Nat.mul_mod, h, Nat.one_mul, Nat.mod_mod]

theorem pow_gcd_one {N g : Nat} (hN : 1 < N) : ∀ (a b : Nat), g ^ a % N = 1 → g ^ b % N = 1 → g ^ (Nat.gcd a b) % N = 1 := by
  intro a
  induction a using Nat.strongRecOn with
  | _ a ih =>
    intro b ha hb
    by_cases h0 : a = 0
    · subst h0; rw [Nat.gcd_zero_left]; exact hb
    · rw [Nat.gcd_rec]
      refine ih (b % a) (Nat.mod_lt _ (by omega)) a ?_ ha
      have h1 := pow_mul_one hN ha (b / a)
      have h2 := pow_add_one h1 (b % a)
      rw [Nat.div_add_mod] at h2
      exact h2.symm.trans hb

/-- The order of g is N - 1: by the primes of N - 1. -/
theorem order_of (N g : Nat) (hN : 2 < N) (l : List Nat) (hl : ∀ q, q ∈ l → Prm q) (hf : l.foldr (· * ·) 1 = N - 1) (h1 : g ^ (N - 1) % N = 1)
    (hq : ∀ q, q ∈ l → g ^ ((N - 1) / q) % N ≠ 1) (i : Nat) (h0 : 0 < i) (hi : i < N - 1) : g ^ i % N ≠ 1 := by
  intro he
  have hd := pow_gcd_one (by omega) i (N - 1) he h1
  have hdi := Nat.gcd_dvd_left i (N - 1)
  obtain ⟨m, hm⟩ := Nat.gcd_dvd_right i (N - 1)
  have hle := Nat.le_of_dvd h0 hdi
  have hm1 : 1 < m := by
    refine Nat.lt_of_not_le fun hle1 => ?_
    have : m = 0 ∨ m = 1 := by omega
    rcases this with e | e
    · rw [e, Nat.mul_zero] at hm; omega
    · rw [e, Nat.mul_one] at hm; omega
  obtain ⟨q, hql, c, hc⟩ := prm_in l hl m hm1 (by rw [hf]; exact ⟨Nat.gcd i (N - 1), by rw [Nat.mul_comm]; exact hm⟩)
  have hq1 := (hl q hql).1
  refine hq q hql ?_
  have : (N - 1) / q = Nat.gcd i (N - 1) * c := by
    refine Nat.div_eq_of_eq_mul_right (by omega) ?_
    rw [← Nat.mul_assoc, Nat.mul_comm q, Nat.mul_assoc, ← hc]
    exact hm
  rw [this]
  exact pow_mul_one (by omega) hd c

/-- A root of full order: every number below N but 0 is a power of it. -/
theorem all_powers (N g : Nat) (hN : 2 < N) (h1 : g ^ (N - 1) % N = 1) (ho : ∀ i, 0 < i → i < N - 1 → g ^ i % N ≠ 1) (a : Nat) (h0 : 0 < a) (ha : a < N) :
    ∃ i, i < N - 1 ∧ g ^ i % N = a := by
  have hnz : ∀ i, i ≤ N - 1 → g ^ i % N ≠ 0 := by
    intro i hi he
    have : g ^ (N - 1) % N = 0 := by
      rw [show N - 1 = i + (N - 1 - i) by omega, Nat.pow_add, Nat.mul_mod, he, Nat.zero_mul, Nat.zero_mod]
    omega
  have hlt : ∀ i, g ^ i % N < N := fun i => Nat.mod_lt _ (by omega)
  have step : ∀ i j, i < j → j < N - 1 → g ^ i % N ≠ g ^ j % N := by
    intro i j hij hj he
    refine ho (j - i) (by omega) (by omega) ?_
    have e1 : g ^ (N - 1) % N = g ^ (j - i + (N - 1)) % N := by
      rw [show j - i + (N - 1) = j + (N - 1 - i) by omega, Nat.pow_add, Nat.mul_mod, ← he, ← Nat.mul_mod, ← Nat.pow_add]
      congr 2
      omega
    have e2 := pow_add_one h1 (j - i)
    rw [Nat.add_comm (N - 1)] at e2
    rw [← e2, ← e1]
    exact h1
  obtain ⟨i, hi, he⟩ := onto (N - 1) (fun i => g ^ i % N - 1)
    (fun i hi => by have := hnz i (by omega); have := hlt i; show g ^ i % N - 1 < N - 1; omega)
    (fun i j hi hj he => by
      have he : g ^ i % N - 1 = g ^ j % N - 1 := he
      have a1 := hnz i (by omega)
      have a2 := hnz j (by omega)
      have he : g ^ i % N = g ^ j % N := by omega
      rcases Nat.lt_trichotomy i j with h | h | h
      · exact absurd he (step i j h hj)
      · exact h
      · exact absurd he.symm (step j i h hi)) (a - 1) (by omega)
  have he : g ^ i % N - 1 = a - 1 := he
  have := hnz i (by omega)
  exact ⟨i, hi, by omega⟩

/-- What is known of a prime N with a root g of full order. -/
structure Root (N g : Nat) : Prop where
  big : 2 < N
  one : g ^ (N - 1) % N = 1
  ord : ∀ i, 0 < i → i < N - 1 → g ^ i % N ≠ 1

theorem Root.powers {N g : Nat} (h : Root N g) (a : Nat) (ha : a % N ≠ 0) : ∃ i, i < N - 1 ∧ g ^ i % N = a % N :=
  all_powers N g h.big h.one h.ord (a % N) (by omega) (Nat.mod_lt _ (by have := h.big; omega))

/-- Fermat. -/
theorem Root.fermat {N g : Nat} (h : Root N g) (a : Nat) (ha : a % N ≠ 0) : a ^ (N - 1) % N = 1 := by
  obtain ⟨i, _, he⟩ := h.powers a ha
  have hb := h.big
  rw [Nat.pow_mod, ← he, ← Nat.pow_mod, ← Nat.pow_mul, Nat.mul_comm]
  exact pow_mul_one (by omega) h.one i

theorem Root.nonzero {N g : Nat} (h : Root N g) {a b : Nat} (ha : a % N ≠ 0) (hb : b % N ≠ 0) : a * b % N ≠ 0 := by
  intro he
  have hN := h.big
  have := h.fermat a ha
  have h2 := h.fermat b hb
  have h3 : (a * b) ^ (N - 1) % N = 1 := by rw [Nat.mul_pow, Nat.mul_mod, this, h2, one_mod (by omega)]
  rw [Nat.pow_mod, he, Nat.zero_pow (by omega), Nat.zero_mod] at h3
  omega

/-- g to the i is 1 where N - 1 divides i alone. -/
theorem Root.dvd {N g : Nat} (h : Root N g) (i : Nat) (he : g ^ i % N = 1) : (N - 1) ∣ i := by
  have hN := h.big
  have h1 := pow_mul_one (by omega) h.one (i / (N - 1))
  have h2 := pow_add_one h1 (i % (N - 1))
  rw [Nat.div_add_mod, he] at h2
  refine Nat.dvd_of_mod_eq_zero ?_
  refine Classical.byContradiction fun hne => ?_
  exact h.ord (i % (N - 1)) (by omega) (Nat.mod_lt _ (by omega)) h2.symm

/-- Euler: what has power 1 to half of N - 1 is a square. -/
theorem Root.square {N g : Nat} (h : Root N g) (ho : (N - 1) % 2 = 0) (a : Nat) (ha : a % N ≠ 0) (he : a ^ ((N - 1) / 2) % N = 1) : ∃ x, x < N ∧ x * x % N = a % N := by
  have hN := h.big
  obtain ⟨i, _, hi⟩ := h.powers a ha
  have h1 : g ^ (i * ((N - 1) / 2)) % N = 1 := by rw [Nat.pow_mul, Nat.pow_mod, hi, ← Nat.pow_mod]; exact he
  obtain ⟨c, hc⟩ := h.dvd _ h1
  have h2 : i = 2 * c := by
    have e1 : N - 1 = (N - 1) / 2 * 2 := by omega
    have e2 : (N - 1) / 2 * i = (N - 1) / 2 * (2 * c) := by
      rw [Nat.mul_comm, hc, ← Nat.mul_assoc, ← e1]
    exact Nat.eq_of_mul_eq_mul_left (by omega) e2
  refine ⟨g ^ c % N, Nat.mod_lt _ (by omega), ?_⟩
  rw [← hi, h2, ← Nat.mul_mod, ← Nat.pow_add]
  congr 2
  omega

/-- A square has power 1 to half of N - 1. -/
theorem Root.euler {N g : Nat} (h : Root N g) (ho : (N - 1) % 2 = 0) (a x : Nat) (ha : a % N ≠ 0) (hx : x * x % N = a % N) : a ^ ((N - 1) / 2) % N = 1 := by
  have hx0 : x % N ≠ 0 := fun e => ha (by rw [← hx, Nat.mul_mod, e, Nat.zero_mul, Nat.zero_mod])
  rw [Nat.pow_mod, ← hx, ← Nat.pow_mod, ← Nat.pow_two, ← Nat.pow_mul, show 2 * ((N - 1) / 2) = N - 1 by omega]
  exact h.fermat x hx0

end Obol
/- The three primes, each with a root of full order: by the primes of what is one less. -/
namespace Obol

def R : Nat := 288230376287764481
def S : Nat := 72057593894066549
def P : Nat := 1152921505151057923

theorem R_def : R = 288230376287764481 := rfl
theorem S_def : S = 72057593894066549 := rfl
theorem P_def : P = 1152921505151057923 := rfl

theorem prm_list {l : List (Nat × Nat)} (h : l.all (fun x => decide (1 < x.1) && none x.2 2 x.1 && decide (x.1 < (x.2 + 2) * (x.2 + 2))) = true) :
    ∀ q, q ∈ l.map (·.1) → Prm q := by
  intro q hq
  obtain ⟨x, hx, rfl⟩ := List.mem_map.1 hq
  have := List.all_eq_true.1 h x hx
  simp only [Bool.and_eq_true, decide_eq_true_eq] at this
  exact prm_of x.2 x.1 this.1.1 this.1.2 this.2

theorem root_of (N g : Nat) (l : List (Nat × Nat)) (hN : 2 < N) (hl : N - 1 < 2 ^ 62)
    (h : l.all (fun x => decide (1 < x.1) && none x.2 2 x.1 && decide (x.1 < (x.2 + 2) * (x.2 + 2))) = true)
    (hf : (l.map (·.1)).foldr (· * ·) 1 = N - 1) (h1 : powm N 62 g (N - 1) = 1)
    (hq : l.all (fun x => powm N 62 g ((N - 1) / x.1) != 1) = true) : Root N g := by
  have e1 : g ^ (N - 1) % N = 1 := by rw [← powm_eq N 62 g (N - 1) hl]; exact h1
  refine ⟨hN, e1, order_of N g hN (l.map (·.1)) (prm_list h) hf e1 ?_⟩
  intro q hq'
  obtain ⟨x, hx, rfl⟩ := List.mem_map.1 hq'
  have := List.all_eq_true.1 hq x hx
  simp only [bne_iff_ne, ne_eq] at this
  rw [powm_eq N 62 g ((N - 1) / x.1) (Nat.lt_of_le_of_lt (Nat.div_le_self _ _) hl)] at this
  exact this

theorem rootR : Root R 3 := root_of R 3 ((List.replicate 18 (2, 0)) ++ [(5, 1), (587, 23), (619, 23), (769, 26), (787, 27)]) (by decide +kernel) (by decide +kernel) (by decide +kernel) (by decide +kernel) (by decide +kernel) (by decide +kernel)
theorem rootS : Root S 2 := root_of S 2 [(2, 0), (2, 0), (67, 7), (317, 16), (57251, 238), (14815033, 3848)] (by decide +kernel) (by decide +kernel) (by decide +kernel) (by decide +kernel) (by decide +kernel) (by decide +kernel)
theorem rootP : Root P 2 := root_of P 2 [(2, 0), (3, 0), (3, 0), (7, 1), (1879, 42), (1368181, 1168), (3559253, 1885)] (by decide +kernel) (by decide +kernel) (by decide +kernel) (by decide +kernel) (by decide +kernel) (by decide +kernel)

end Obol
/- The Edwards curve -x x + y y = 1 + d x x y y over a field in which -1 is a square and d is none: its points are a group. No program in sight. -/
namespace Obol

theorem assoc_x {ell : Nat} [NeZero ell] {x1 y1 x2 y2 x3 y3 d N M A B N2 M2 A2 B2 : Fin ell} (hN : N = x1*y2 + y1*x2) (hM : M = y1*y2 + x1*x2) (hA : A = 1 + d*x1*y1*x2*y2) (hB : B = 1 - d*x1*y1*x2*y2)
    (hN2 : N2 = x2*y3 + y2*x3) (hM2 : M2 = y2*y3 + x2*x3) (hA2 : A2 = 1 + d*x2*y2*x3*y3) (hB2 : B2 = 1 - d*x2*y2*x3*y3)
    (h1 : d*x1*x1*y1*y1 + 1 + x1*x1 - y1*y1 = 0) (h2 : d*x2*x2*y2*y2 + 1 + x2*x2 - y2*y2 = 0) (h3 : d*x3*x3*y3*y3 + 1 + x3*x3 - y3*y3 = 0) :
    (N*B*y3 + M*A*x3)*(A2*B2 + d*x1*y1*N2*M2) - (x1*M2*A2 + y1*N2*B2)*(A*B + d*x3*y3*N*M) = 0 := by
  have e : (N*B*y3 + M*A*x3)*(A2*B2 + d*x1*y1*N2*M2) - (x1*M2*A2 + y1*N2*B2)*(A*B + d*x3*y3*N*M) =
      (x1*x2*x2*x2*x2*y2*y2*y2*x3*x3*y3*d*d + x1*x2*x2*x2*x2*y2*x3*x3*y3*d + x1*x2*x2*x2*y2*y2*y2*y2*x3*y3*y3*d*d + x1*x2*x2*x2*y2*y2*x3*x3*x3*d + x1*x2*x2*x2*y2*y2*x3*d - x1*x2*x2*y2*y2*y2*y3*y3*y3*d + x1*x2*x2*y2*y2*y2*y3*d - x1*x2*y2*y2*y2*y2*x3*y3*y3*d - y1*x2*x2*x2*x2*y2*y2*y2*x3*y3*y3*d*d - y1*x2*x2*x2*x2*y2*x3*y3*y3*d - y1*x2*x2*x2*y2*y2*y2*y2*x3*x3*y3*d*d - y1*x2*x2*x2*y2*y2*y3*y3*y3*d + y1*x2*x2*x2*y2*y2*y3*d + y1*x2*x2*y2*y2*y2*x3*x3*x3*d + y1*x2*x2*y2*y2*y2*x3*d + y1*x2*y2*y2*y2*y2*x3*x3*y3*d) * (d*x1*x1*y1*y1 + 1 + x1*x1 - y1*y1) +
      (-x1*x1*x1*x2*x2*y2*x3*x3*y3*d - x1*x1*x1*x2*y2*y2*x3*y3*y3*d - x1*x1*x1*x2*x3*x3*x3*y3*y3*d - x1*x1*x1*x2*x3*x3*x3 + x1*x1*x1*x2*x3*y3*y3 - x1*x1*x1*x2*x3 - x1*x1*x1*y2*x3*x3*y3*y3*y3*d - x1*x1*x1*y2*x3*x3*y3 + x1*x1*x1*y2*y3*y3*y3 - x1*x1*x1*y2*y3 - x1*x1*y1*x2*x2*y2*x3*x3*x3*y3*y3*d*d + x1*x1*y1*x2*x2*y2*x3*y3*y3*d + x1*x1*y1*x2*y2*y2*x3*x3*y3*y3*y3*d*d + x1*x1*y1*x2*y2*y2*x3*x3*y3*d - x1*x1*y1*x2*x3*x3*y3*y3*y3*d - x1*x1*y1*x2*x3*x3*y3 + x1*x1*y1*x2*y3*y3*y3 - x1*x1*y1*x2*y3 - x1*x1*y1*y2*x3*x3*x3*y3*y3*d - x1*x1*y1*y2*x3*x3*x3 + x1*x1*y1*y2*x3*y3*y3 - x1*x1*y1*y2*x3 + x1*y1*y1*x2*x2*y2*x3*x3*y3*y3*y3*d*d + x1*y1*y1*x2*x2*y2*x3*x3*y3*d - x1*y1*y1*x2*y2*y2*x3*x3*x3*y3*y3*d*d + x1*y1*y1*x2*y2*y2*x3*y3*y3*d + x1*y1*y1*x2*x3*x3*x3*y3*y3*d + x1*y1*y1*x2*x3*x3*x3 - x1*y1*y1*x2*x3*y3*y3 + x1*y1*y1*x2*x3 + x1*y1*y1*y2*x3*x3*y3*y3*y3*d + x1*y1*y1*y2*x3*x3*y3 - x1*y1*y1*y2*y3*y3*y3 + x1*y1*y1*y2*y3 - x1*x2*x2*y2*x3*x3*y3*d - x1*x2*y2*y2*x3*y3*y3*d - x1*x2*x3*x3*x3*y3*y3*d - x1*x2*x3*x3*x3 + x1*x2*x3*y3*y3 - x1*x2*x3 - x1*y2*x3*x3*y3*y3*y3*d - x1*y2*x3*x3*y3 + x1*y2*y3*y3*y3 - x1*y2*y3 - y1*y1*y1*x2*x2*y2*x3*y3*y3*d - y1*y1*y1*x2*y2*y2*x3*x3*y3*d + y1*y1*y1*x2*x3*x3*y3*y3*y3*d + y1*y1*y1*x2*x3*x3*y3 - y1*y1*y1*x2*y3*y3*y3 + y1*y1*y1*x2*y3 + y1*y1*y1*y2*x3*x3*x3*y3*y3*d + y1*y1*y1*y2*x3*x3*x3 - y1*y1*y1*y2*x3*y3*y3 + y1*y1*y1*y2*x3 + y1*x2*x2*y2*x3*y3*y3*d + y1*x2*y2*y2*x3*x3*y3*d - y1*x2*x3*x3*y3*y3*y3*d - y1*x2*x3*x3*y3 + y1*x2*y3*y3*y3 - y1*x2*y3 - y1*y2*x3*x3*x3*y3*y3*d - y1*y2*x3*x3*x3 + y1*y2*x3*y3*y3 - y1*y2*x3) * (d*x2*x2*y2*y2 + 1 + x2*x2 - y2*y2) +
      (x1*x1*x1*x2*x2*x2*x3 + x1*x1*x1*x2*x2*y2*y3 - x1*x1*x1*x2*y2*y2*x3 + x1*x1*x1*x2*x3 - x1*x1*x1*y2*y2*y2*y3 + x1*x1*x1*y2*y3 + x1*x1*y1*x2*x2*x2*y3 + x1*x1*y1*x2*x2*y2*x3*d + x1*x1*y1*x2*x2*y2*x3 - x1*x1*y1*x2*y2*y2*y3*d - x1*x1*y1*x2*y2*y2*y3 + x1*x1*y1*x2*y3 - x1*x1*y1*y2*y2*y2*x3 + x1*x1*y1*y2*x3 - x1*y1*y1*x2*x2*x2*x3 - x1*y1*y1*x2*x2*y2*y3*d - x1*y1*y1*x2*x2*y2*y3 + x1*y1*y1*x2*y2*y2*x3*d + x1*y1*y1*x2*y2*y2*x3 - x1*y1*y1*x2*x3 + x1*y1*y1*y2*y2*y2*y3 - x1*y1*y1*y2*y3 + x1*x2*x2*x2*x3 + x1*x2*x2*y2*y3 - x1*x2*y2*y2*x3 + x1*x2*x3 - x1*y2*y2*y2*y3 + x1*y2*y3 - y1*y1*y1*x2*x2*x2*y3 - y1*y1*y1*x2*x2*y2*x3 + y1*y1*y1*x2*y2*y2*y3 - y1*y1*y1*x2*y3 + y1*y1*y1*y2*y2*y2*x3 - y1*y1*y1*y2*x3 + y1*x2*x2*x2*y3 + y1*x2*x2*y2*x3 - y1*x2*y2*y2*y3 + y1*x2*y3 - y1*y2*y2*y2*x3 + y1*y2*x3) * (d*x3*x3*y3*y3 + 1 + x3*x3 - y3*y3) := by
    subst hN hM hA hB hN2 hM2 hA2 hB2
    clear h1 h2 h3
    grind
  rw [e, h1, h2, h3]
  grind

theorem assoc_y {ell : Nat} [NeZero ell] {x1 y1 x2 y2 x3 y3 d N M A B N2 M2 A2 B2 : Fin ell} (hN : N = x1*y2 + y1*x2) (hM : M = y1*y2 + x1*x2) (hA : A = 1 + d*x1*y1*x2*y2) (hB : B = 1 - d*x1*y1*x2*y2)
    (hN2 : N2 = x2*y3 + y2*x3) (hM2 : M2 = y2*y3 + x2*x3) (hA2 : A2 = 1 + d*x2*y2*x3*y3) (hB2 : B2 = 1 - d*x2*y2*x3*y3)
    (h1 : d*x1*x1*y1*y1 + 1 + x1*x1 - y1*y1 = 0) (h2 : d*x2*x2*y2*y2 + 1 + x2*x2 - y2*y2 = 0) (h3 : d*x3*x3*y3*y3 + 1 + x3*x3 - y3*y3 = 0) :
    (M*A*y3 + N*B*x3)*(A2*B2 - d*x1*y1*N2*M2) - (y1*M2*A2 + x1*N2*B2)*(A*B - d*x3*y3*N*M) = 0 := by
  have e : (M*A*y3 + N*B*x3)*(A2*B2 - d*x1*y1*N2*M2) - (y1*M2*A2 + x1*N2*B2)*(A*B - d*x3*y3*N*M) =
      (-x1*x2*x2*x2*x2*y2*y2*y2*x3*y3*y3*d*d - x1*x2*x2*x2*x2*y2*x3*y3*y3*d - x1*x2*x2*x2*y2*y2*y2*y2*x3*x3*y3*d*d - x1*x2*x2*x2*y2*y2*y3*y3*y3*d + x1*x2*x2*x2*y2*y2*y3*d + x1*x2*x2*y2*y2*y2*x3*x3*x3*d + x1*x2*x2*y2*y2*y2*x3*d + x1*x2*y2*y2*y2*y2*x3*x3*y3*d + y1*x2*x2*x2*x2*y2*y2*y2*x3*x3*y3*d*d + y1*x2*x2*x2*x2*y2*x3*x3*y3*d + y1*x2*x2*x2*y2*y2*y2*y2*x3*y3*y3*d*d + y1*x2*x2*x2*y2*y2*x3*x3*x3*d + y1*x2*x2*x2*y2*y2*x3*d - y1*x2*x2*y2*y2*y2*y3*y3*y3*d + y1*x2*x2*y2*y2*y2*y3*d - y1*x2*y2*y2*y2*y2*x3*y3*y3*d) * (d*x1*x1*y1*y1 + 1 + x1*x1 - y1*y1) +
      (x1*x1*x1*x2*x2*y2*x3*y3*y3*d + x1*x1*x1*x2*y2*y2*x3*x3*y3*d - x1*x1*x1*x2*x3*x3*y3*y3*y3*d - x1*x1*x1*x2*x3*x3*y3 + x1*x1*x1*x2*y3*y3*y3 - x1*x1*x1*x2*y3 - x1*x1*x1*y2*x3*x3*x3*y3*y3*d - x1*x1*x1*y2*x3*x3*x3 + x1*x1*x1*y2*x3*y3*y3 - x1*x1*x1*y2*x3 - x1*x1*y1*x2*x2*y2*x3*x3*y3*y3*y3*d*d - x1*x1*y1*x2*x2*y2*x3*x3*y3*d + x1*x1*y1*x2*y2*y2*x3*x3*x3*y3*y3*d*d - x1*x1*y1*x2*y2*y2*x3*y3*y3*d - x1*x1*y1*x2*x3*x3*x3*y3*y3*d - x1*x1*y1*x2*x3*x3*x3 + x1*x1*y1*x2*x3*y3*y3 - x1*x1*y1*x2*x3 - x1*x1*y1*y2*x3*x3*y3*y3*y3*d - x1*x1*y1*y2*x3*x3*y3 + x1*x1*y1*y2*y3*y3*y3 - x1*x1*y1*y2*y3 + x1*y1*y1*x2*x2*y2*x3*x3*x3*y3*y3*d*d - x1*y1*y1*x2*x2*y2*x3*y3*y3*d - x1*y1*y1*x2*y2*y2*x3*x3*y3*y3*y3*d*d - x1*y1*y1*x2*y2*y2*x3*x3*y3*d + x1*y1*y1*x2*x3*x3*y3*y3*y3*d + x1*y1*y1*x2*x3*x3*y3 - x1*y1*y1*x2*y3*y3*y3 + x1*y1*y1*x2*y3 + x1*y1*y1*y2*x3*x3*x3*y3*y3*d + x1*y1*y1*y2*x3*x3*x3 - x1*y1*y1*y2*x3*y3*y3 + x1*y1*y1*y2*x3 + x1*x2*x2*y2*x3*y3*y3*d + x1*x2*y2*y2*x3*x3*y3*d - x1*x2*x3*x3*y3*y3*y3*d - x1*x2*x3*x3*y3 + x1*x2*y3*y3*y3 - x1*x2*y3 - x1*y2*x3*x3*x3*y3*y3*d - x1*y2*x3*x3*x3 + x1*y2*x3*y3*y3 - x1*y2*x3 + y1*y1*y1*x2*x2*y2*x3*x3*y3*d + y1*y1*y1*x2*y2*y2*x3*y3*y3*d + y1*y1*y1*x2*x3*x3*x3*y3*y3*d + y1*y1*y1*x2*x3*x3*x3 - y1*y1*y1*x2*x3*y3*y3 + y1*y1*y1*x2*x3 + y1*y1*y1*y2*x3*x3*y3*y3*y3*d + y1*y1*y1*y2*x3*x3*y3 - y1*y1*y1*y2*y3*y3*y3 + y1*y1*y1*y2*y3 - y1*x2*x2*y2*x3*x3*y3*d - y1*x2*y2*y2*x3*y3*y3*d - y1*x2*x3*x3*x3*y3*y3*d - y1*x2*x3*x3*x3 + y1*x2*x3*y3*y3 - y1*x2*x3 - y1*y2*x3*x3*y3*y3*y3*d - y1*y2*x3*x3*y3 + y1*y2*y3*y3*y3 - y1*y2*y3) * (d*x2*x2*y2*y2 + 1 + x2*x2 - y2*y2) +
      (x1*x1*x1*x2*x2*x2*y3 + x1*x1*x1*x2*x2*y2*x3 - x1*x1*x1*x2*y2*y2*y3 + x1*x1*x1*x2*y3 - x1*x1*x1*y2*y2*y2*x3 + x1*x1*x1*y2*x3 + x1*x1*y1*x2*x2*x2*x3 + x1*x1*y1*x2*x2*y2*y3*d + x1*x1*y1*x2*x2*y2*y3 - x1*x1*y1*x2*y2*y2*x3*d - x1*x1*y1*x2*y2*y2*x3 + x1*x1*y1*x2*x3 - x1*x1*y1*y2*y2*y2*y3 + x1*x1*y1*y2*y3 - x1*y1*y1*x2*x2*x2*y3 - x1*y1*y1*x2*x2*y2*x3*d - x1*y1*y1*x2*x2*y2*x3 + x1*y1*y1*x2*y2*y2*y3*d + x1*y1*y1*x2*y2*y2*y3 - x1*y1*y1*x2*y3 + x1*y1*y1*y2*y2*y2*x3 - x1*y1*y1*y2*x3 + x1*x2*x2*x2*y3 + x1*x2*x2*y2*x3 - x1*x2*y2*y2*y3 + x1*x2*y3 - x1*y2*y2*y2*x3 + x1*y2*x3 - y1*y1*y1*x2*x2*x2*x3 - y1*y1*y1*x2*x2*y2*y3 + y1*y1*y1*x2*y2*y2*x3 - y1*y1*y1*x2*x3 + y1*y1*y1*y2*y2*y2*y3 - y1*y1*y1*y2*y3 + y1*x2*x2*x2*x3 + y1*x2*x2*y2*y3 - y1*x2*y2*y2*x3 + y1*x2*x3 - y1*y2*y2*y2*y3 + y1*y2*y3) * (d*x3*x3*y3*y3 + 1 + x3*x3 - y3*y3) := by
    subst hN hM hA hB hN2 hM2 hA2 hB2
    clear h1 h2 h3
    grind
  rw [e, h1, h2, h3]
  grind

structure Ground (ell : Nat) [NeZero ell] where
  inv : Fin ell → Fin ell
  d : Fin ell
  i : Fin ell
  ne : (1 : Fin ell) ≠ 0
  two : (2 : Fin ell) ≠ 0
  dom : ∀ a b : Fin ell, a * b = 0 → a = 0 ∨ b = 0
  inv_mul : ∀ a : Fin ell, a ≠ 0 → a * inv a = 1
  i2 : i * i = -1
  nd : ∀ x : Fin ell, x * x ≠ d

section
variable {ell : Nat} [NeZero ell]

theorem Ground.cancel (k : Ground ell) {a b c : Fin ell} (ha : a ≠ 0) (h : a * b = a * c) : b = c := by
  have h1 : a * (b - c) = 0 := by grind
  rcases k.dom _ _ h1 with e | e
  · exact absurd e ha
  · grind

theorem Ground.mul_ne (k : Ground ell) {a b : Fin ell} (ha : a ≠ 0) (hb : b ≠ 0) : a * b ≠ 0 := fun h => by
  rcases k.dom _ _ h with e | e
  · exact ha e
  · exact hb e

def Ground.On (k : Ground ell) (x y : Fin ell) : Prop := y * y - x * x = 1 + k.d * (x * x) * (y * y)

theorem Ground.nonsq (k : Ground ell) {a b : Fin ell} (h : a * a = -k.d * (b * b)) : b = 0 := by
  refine Classical.byContradiction fun hb => ?_
  have hi := k.inv_mul b hb
  have h2 := k.i2
  exact k.nd (k.i * a * k.inv b) (by grind)

/-- The denominators are never 0. -/
theorem Ground.den (k : Ground ell) {x1 y1 x2 y2 e : Fin ell} (h1 : k.On x1 y1) (h2 : k.On x2 y2) (he : e * e = 1) : k.d * (x1 * x2 * y1 * y2) ≠ e := by
  intro ht
  unfold Ground.On at h1 h2
  have hi := k.i2
  have p1 : (k.i * x1 + e * y1) * (k.i * x1 + e * y1) = -k.d * ((k.i * x1 * y1 * (k.i * x2 + y2)) * (k.i * x1 * y1 * (k.i * x2 + y2))) := by grind
  have p2 : (k.i * x1 - e * y1) * (k.i * x1 - e * y1) = -k.d * ((k.i * x1 * y1 * (k.i * x2 - y2)) * (k.i * x1 * y1 * (k.i * x2 - y2))) := by grind
  have q1 := k.nonsq p1
  have q2 := k.nonsq p2
  have hne := k.ne
  have r : 2 * (k.i * x1 * y1 * y2) = 0 := by grind
  rcases k.dom _ _ r with a | a
  · exact k.two a
  · have : e * e = 0 := by grind
    exact hne (he.symm.trans this)

theorem Ground.den_plus (k : Ground ell) {x1 y1 x2 y2 : Fin ell} (h1 : k.On x1 y1) (h2 : k.On x2 y2) : 1 + k.d * (x1 * x2 * y1 * y2) ≠ 0 := fun h =>
  k.den h1 h2 (e := -1) (by grind) (by grind)
theorem Ground.den_minus (k : Ground ell) {x1 y1 x2 y2 : Fin ell} (h1 : k.On x1 y1) (h2 : k.On x2 y2) : 1 - k.d * (x1 * x2 * y1 * y2) ≠ 0 := fun h =>
  k.den h1 h2 (e := 1) (by grind) (by grind)

/-- A sum's two coordinates: what they are, without a quotient. -/
theorem Ground.on_sum (k : Ground ell) {x1 y1 x2 y2 x3 y3 : Fin ell} (h1 : k.On x1 y1) (h2 : k.On x2 y2) (hx : x3 * (1 + k.d * (x1 * x2 * y1 * y2)) = x1 * y2 + y1 * x2)
    (hy : y3 * (1 - k.d * (x1 * x2 * y1 * y2)) = y1 * y2 + x1 * x2) : k.On x3 y3 := by
  have n1 := k.den_plus h1 h2
  have n2 := k.den_minus h1 h2
  unfold Ground.On at *
  generalize hA : 1 + k.d * (x1 * x2 * y1 * y2) = A at *
  generalize hB : 1 - k.d * (x1 * x2 * y1 * y2) = B at *
  refine k.cancel (k.mul_ne (k.mul_ne n1 n1) (k.mul_ne n2 n2)) ?_
  have key : A * A * ((y1 * y2 + x1 * x2) * (y1 * y2 + x1 * x2)) - B * B * ((x1 * y2 + y1 * x2) * (x1 * y2 + y1 * x2)) =
      A * A * (B * B) + k.d * ((x1 * y2 + y1 * x2) * (x1 * y2 + y1 * x2)) * ((y1 * y2 + x1 * x2) * (y1 * y2 + x1 * x2)) := by
    subst hA hB
    clear hx hy n1 n2
    grind
  rw [← hx, ← hy] at key
  clear hx hy hA hB h1 h2 n1 n2
  grind


structure Pnt (k : Ground ell) where
  x : Fin ell
  y : Fin ell
  on : k.On x y

variable {k : Ground ell}
theorem Pnt.ext {p q : Pnt k} (hx : p.x = q.x) (hy : p.y = q.y) : p = q := by
  cases p; cases q
  simp only at hx hy
  subst hx hy
  rfl

def Pnt.dx (p q : Pnt k) : Fin ell := 1 + k.d * (p.x * q.x * p.y * q.y)
def Pnt.dy (p q : Pnt k) : Fin ell := 1 - k.d * (p.x * q.x * p.y * q.y)
theorem Pnt.dx_ne (p q : Pnt k) : p.dx q ≠ 0 := k.den_plus p.on q.on
theorem Pnt.dy_ne (p q : Pnt k) : p.dy q ≠ 0 := k.den_minus p.on q.on

theorem Ground.div_mul (k : Ground ell) {a b : Fin ell} (h : b ≠ 0) : a * k.inv b * b = a := by
  have := k.inv_mul b h
  grind

def Pnt.add (p q : Pnt k) : Pnt k :=
  ⟨(p.x * q.y + p.y * q.x) * k.inv (p.dx q), (p.y * q.y + p.x * q.x) * k.inv (p.dy q), k.on_sum p.on q.on (k.div_mul (p.dx_ne q)) (k.div_mul (p.dy_ne q))⟩

theorem Pnt.add_x (p q : Pnt k) : (p.add q).x * p.dx q = p.x * q.y + p.y * q.x := k.div_mul (p.dx_ne q)
theorem Pnt.add_y (p q : Pnt k) : (p.add q).y * p.dy q = p.y * q.y + p.x * q.x := k.div_mul (p.dy_ne q)

theorem Pnt.eq_add {p q s : Pnt k} (hx : s.x * p.dx q = p.x * q.y + p.y * q.x) (hy : s.y * p.dy q = p.y * q.y + p.x * q.x) : s = p.add q := by
  refine Pnt.ext (k.cancel (p.dx_ne q) ?_) (k.cancel (p.dy_ne q) ?_)
  · have := p.add_x q
    grind
  · have := p.add_y q
    grind

def Pnt.zero : Pnt k := ⟨0, 1, by unfold Ground.On; grind⟩
def Pnt.neg (p : Pnt k) : Pnt k := ⟨-p.x, p.y, by have := p.on; unfold Ground.On at *; grind⟩

theorem Pnt.add_comm (p q : Pnt k) : p.add q = q.add p := by
  refine Pnt.eq_add ?_ ?_
  · have := p.add_x q
    unfold Pnt.dx at *
    grind
  · have := p.add_y q
    unfold Pnt.dy at *
    grind

theorem Pnt.zero_add (p : Pnt k) : Pnt.zero.add p = p := by
  refine (Pnt.eq_add ?_ ?_).symm <;> simp only [Pnt.dx, Pnt.dy, Pnt.zero] <;> grind

theorem Pnt.neg_add (p : Pnt k) : p.neg.add p = Pnt.zero := by
  have := p.on
  unfold Ground.On at this
  refine (Pnt.eq_add ?_ ?_).symm <;> simp only [Pnt.dx, Pnt.dy, Pnt.zero, Pnt.neg] <;> grind

theorem Pnt.on' (p : Pnt k) : k.d * p.x * p.x * p.y * p.y + 1 + p.x * p.x - p.y * p.y = 0 := by
  have := p.on
  unfold Ground.On at this
  grind

theorem Ground.zero_of (k : Ground ell) {a b : Fin ell} (ha : a ≠ 0) (h : a * b = 0) : b = 0 := by
  rcases k.dom _ _ h with e | e
  · exact absurd e ha
  · exact e

theorem fin_x {d x1 y1 x3 y3 a b c e A B A2 B2 : Fin ell}
    (K : (a * A * B * y3 + b * B * A * x3) * (A2 * B2 + d * x1 * y1 * (c * A2) * (e * B2)) - (x1 * (e * B2) * A2 + y1 * (c * A2) * B2) * (A * B + d * x3 * y3 * (a * A) * (b * B)) = 0) :
    A * B * (A2 * B2) * ((a * y3 + b * x3) * (1 + d * (x1 * c * y1 * e)) - (x1 * e + y1 * c) * (1 + d * (a * x3 * b * y3))) = 0 := by
  rw [← K]; clear K; grind
theorem fin_y {d x1 y1 x3 y3 a b c e A B A2 B2 : Fin ell}
    (K : (b * B * A * y3 + a * A * B * x3) * (A2 * B2 - d * x1 * y1 * (c * A2) * (e * B2)) - (y1 * (e * B2) * A2 + x1 * (c * A2) * B2) * (A * B - d * x3 * y3 * (a * A) * (b * B)) = 0) :
    A * B * (A2 * B2) * ((b * y3 + a * x3) * (1 - d * (x1 * c * y1 * e)) - (y1 * e + x1 * c) * (1 - d * (a * x3 * b * y3))) = 0 := by
  rw [← K]; clear K; grind

theorem Pnt.add_assoc (p q r : Pnt k) : (p.add q).add r = p.add (q.add r) := by
  have nz := k.mul_ne (k.mul_ne (p.dx_ne q) (p.dy_ne q)) (k.mul_ne (q.dx_ne r) (q.dy_ne r))
  have eA : p.dx q = 1 + k.d * p.x * p.y * q.x * q.y := by unfold Pnt.dx; grind
  have eB : p.dy q = 1 - k.d * p.x * p.y * q.x * q.y := by unfold Pnt.dy; grind
  have eC : q.dx r = 1 + k.d * q.x * q.y * r.x * r.y := by unfold Pnt.dx; grind
  have eD : q.dy r = 1 - k.d * q.x * q.y * r.x * r.y := by unfold Pnt.dy; grind
  have kx := assoc_x (x1 := p.x) (y1 := p.y) (x2 := q.x) (y2 := q.y) (x3 := r.x) (y3 := r.y) (d := k.d) (p.add_x q) (p.add_y q) eA eB (q.add_x r) (q.add_y r) eC eD p.on' q.on' r.on'
  have ky := assoc_y (x1 := p.x) (y1 := p.y) (x2 := q.x) (y2 := q.y) (x3 := r.x) (y3 := r.y) (d := k.d) (p.add_x q) (p.add_y q) eA eB (q.add_x r) (q.add_y r) eC eD p.on' q.on' r.on'
  have zx := k.zero_of nz (fin_x kx)
  have zy := k.zero_of nz (fin_y ky)
  have he := (p.add q).add_x r
  have hf := (p.add q).add_y r
  refine Pnt.eq_add (k.cancel ((p.add q).dx_ne r) ?_) (k.cancel ((p.add q).dy_ne r) ?_)
  · clear kx ky eA eB eC eD zy hf nz
    unfold Pnt.dx at *
    generalize ((p.add q).add r).x = u at *
    generalize (p.add q).x = a at *
    generalize (p.add q).y = b at *
    generalize (q.add r).x = c at *
    generalize (q.add r).y = e at *
    grind
  · clear kx ky eA eB eC eD zx he nz
    unfold Pnt.dy at *
    generalize ((p.add q).add r).y = u at *
    generalize (p.add q).x = a at *
    generalize (p.add q).y = b at *
    generalize (q.add r).x = c at *
    generalize (q.add r).y = e at *
    grind

/-! multiples -/
def Pnt.smul : Nat → Pnt k → Pnt k
  | 0, _ => Pnt.zero
  | n + 1, p => (Pnt.smul n p).add p

theorem Pnt.add_zero (p : Pnt k) : p.add Pnt.zero = p := by rw [Pnt.add_comm, Pnt.zero_add]
theorem Pnt.smul_add (m n : Nat) (p : Pnt k) : Pnt.smul (m + n) p = (Pnt.smul m p).add (Pnt.smul n p) := by
  induction n with
  | zero => exact (Pnt.add_zero _).symm
  | succ n ih => rw [← Nat.add_assoc]; show (Pnt.smul (m + n) p).add p = _; rw [ih, Pnt.add_assoc]; rfl
theorem Pnt.smul_one (p : Pnt k) : Pnt.smul 1 p = p := Pnt.zero_add p
theorem Pnt.smul_zero (n : Nat) : Pnt.smul n (Pnt.zero : Pnt k) = Pnt.zero := by
  induction n with
  | zero => rfl
  | succ n ih => show (Pnt.smul n Pnt.zero).add Pnt.zero = _; rw [ih, Pnt.add_zero]
theorem Pnt.smul_mul (m n : Nat) (p : Pnt k) : Pnt.smul (m * n) p = Pnt.smul m (Pnt.smul n p) := by
  induction m with
  | zero => rw [Nat.zero_mul]; rfl
  | succ m ih => rw [Nat.succ_mul, Pnt.smul_add, ih]; rfl
theorem Pnt.add_swap (p q r s : Pnt k) : (p.add q).add (r.add s) = (p.add r).add (q.add s) := by
  rw [Pnt.add_assoc, Pnt.add_assoc, ← Pnt.add_assoc q r s, Pnt.add_comm q r, Pnt.add_assoc r q s]
theorem Pnt.smul_dist (n : Nat) (p q : Pnt k) : Pnt.smul n (p.add q) = (Pnt.smul n p).add (Pnt.smul n q) := by
  induction n with
  | zero => exact (Pnt.zero_add _).symm
  | succ n ih => show (Pnt.smul n (p.add q)).add (p.add q) = _; rw [ih, Pnt.add_swap]; rfl
theorem Pnt.add_cancel {p q r : Pnt k} (h : p.add q = p.add r) : q = r := by
  have : p.neg.add (p.add q) = p.neg.add (p.add r) := by rw [h]
  rwa [← Pnt.add_assoc, ← Pnt.add_assoc, Pnt.neg_add, Pnt.zero_add, Pnt.zero_add] at this

/-! halves; the two points of one Y -/
theorem Pnt.half (p : Pnt k) (h : p.add p = Pnt.zero) : p = Pnt.zero ∨ (p.x = 0 ∧ p.y = -1) := by
  have hx := p.add_x p
  have hy := p.add_y p
  rw [h] at hx hy
  have on := p.on
  unfold Ground.On at on
  have hx : 0 * p.dx p = p.x * p.y + p.y * p.x := hx
  have hy : 1 * p.dy p = p.y * p.y + p.x * p.x := hy
  unfold Pnt.dy at hy
  have h2 : (2 : Fin ell) * (p.x * p.y) = 0 := by grind
  have two := k.two
  rcases k.dom _ _ h2 with e | e
  · exact absurd e two
  rcases k.dom _ _ e with e | e
  · have h3 : (p.y - 1) * (p.y + 1) = 0 := by grind
    rcases k.dom _ _ h3 with f | f
    · left
      refine Pnt.ext e ?_
      show p.y = 1
      grind
    · right
      exact ⟨e, by grind⟩
  · exfalso
    refine two ?_
    rw [e] at hy on
    clear hx h2 e h
    grind

theorem Pnt.eighth (p q : Pnt k) (hq : q.y = 0) (h : p.add p = q) : (k.d * (p.y * p.y) + 1) * (k.d * (p.y * p.y) + 1) = k.d + 1 := by
  have hy := p.add_y p
  rw [h, hq] at hy
  have on := p.on
  unfold Ground.On at on
  grind

theorem Ground.x_of_y (k : Ground ell) {x x' y : Fin ell} (h : k.On x y) (h' : k.On x' y) : x = x' ∨ x = -x' := by
  unfold Ground.On at h h'
  have hne : 1 + k.d * (y * y) ≠ 0 := by
    intro e
    have i2 := k.i2
    exact k.nd k.i (by grind)
  have h1 : (1 + k.d * (y * y)) * ((x - x') * (x + x')) = 0 := by grind
  rcases k.dom _ _ (k.zero_of hne h1) with e | e
  · left; grind
  · right; grind
theorem Ground.y_den (k : Ground ell) (y : Fin ell) : 1 + k.d * (y * y) ≠ 0 := by
  intro e
  have i2 := k.i2
  by_cases hy : y = 0
  · have := k.ne
    rw [hy] at e
    grind
  · have hi := k.inv_mul y hy
    exact k.nd (k.i * k.inv y) (by grind)
theorem Ground.neg_zero (k : Ground ell) : -(0 : Fin ell) = 0 := by have := k.ne; grind


/-! points X / Z, Y / Z -/
structure Scaled (x y z : Fin ell) (p : Pnt k) : Prop where
  z0 : z ≠ 0
  hx : x = p.x * z
  hy : y = p.y * z

theorem Scaled.one (p : Pnt k) : Scaled p.x p.y 1 p := ⟨k.ne, by grind, by grind⟩
theorem Scaled.tog {x y z x' y' z' : Fin ell} {p q : Pnt k} (h : Scaled x y z p) (h' : Scaled x' y' z' q) :
    Scaled (z * z' * (x * y' + y * x') * (z * z' * (z * z') - k.d * (x * x' * (y * y')))) (z * z' * (x * x' + y * y') * (z * z' * (z * z') + k.d * (x * x' * (y * y'))))
      ((z * z' * (z * z') + k.d * (x * x' * (y * y'))) * (z * z' * (z * z') - k.d * (x * x' * (y * y')))) (p.add q) := by
  have ax := p.add_x q
  have ay := p.add_y q
  have e1 : z * z' * (z * z') + k.d * (x * x' * (y * y')) = z * z' * (z * z') * p.dx q := by
    rw [h.hx, h.hy, h'.hx, h'.hy]
    unfold Pnt.dx
    clear ax ay
    grind
  have e2 : z * z' * (z * z') - k.d * (x * x' * (y * y')) = z * z' * (z * z') * p.dy q := by
    rw [h.hx, h.hy, h'.hx, h'.hy]
    unfold Pnt.dy
    clear ax ay
    grind
  have zz := k.mul_ne (k.mul_ne h.z0 h'.z0) (k.mul_ne h.z0 h'.z0)
  have n1 := k.mul_ne zz (p.dx_ne q)
  have n2 := k.mul_ne zz (p.dy_ne q)
  rw [e1, e2]
  refine ⟨k.mul_ne n1 n2, ?_, ?_⟩
  · have e3 : x * y' + y * x' = z * z' * ((p.add q).x * p.dx q) := by
      rw [h.hx, h.hy, h'.hx, h'.hy, ax]
      clear ax ay e1 e2
      grind
    rw [e3]
    generalize p.dx q = A
    generalize p.dy q = B
    clear ax ay e1 e2 e3
    grind
  · have e3 : x * x' + y * y' = z * z' * ((p.add q).y * p.dy q) := by
      rw [h.hx, h.hy, h'.hx, h'.hy, ay]
      clear ax ay e1 e2
      grind
    rw [e3]
    generalize p.dx q = A
    generalize p.dy q = B
    clear ax ay e1 e2 e3
    grind
theorem Scaled.out {x y z : Fin ell} {p : Pnt k} (h : Scaled x y z p) : x * k.inv z = p.x ∧ y * k.inv z = p.y := by
  have hi := k.inv_mul z h.z0
  have h1 := h.hx
  have h2 := h.hy
  exact ⟨by grind, by grind⟩

end
end Obol
/- The field of R elements, the Edwards curve over it, and a first point. -/
namespace Obol

theorem R_pos : 0 < R := by decide +kernel
instance : NeZero R := ⟨by decide +kernel⟩
abbrev Fr := Fin R

def fr (a : Nat) : Fr := ⟨a % R, Nat.mod_lt _ R_pos⟩
theorem fr_val (a : Nat) : (fr a).val = a % R := rfl
theorem fr_of (a : Fr) : fr a.val = a := Fin.ext (Nat.mod_eq_of_lt a.isLt)
theorem val_mul (a b : Fr) : (a * b).val = a.val * b.val % R := rfl
theorem val_add (a b : Fr) : (a + b).val = (a.val + b.val) % R := rfl
theorem val_sub (a b : Fr) : (a - b).val = (R - b.val + a.val) % R := rfl
theorem val_neg (a : Fr) : (-a).val = (R - a.val) % R := rfl
theorem val_num (n : Nat) : (OfNat.ofNat n : Fr).val = n % R := rfl
theorem val_zero : (0 : Fr).val = 0 := by rw [val_num]; decide +kernel
theorem val_one : (1 : Fr).val = 1 := by rw [val_num]; decide +kernel

theorem val_eq_zero {a : Fr} : a = 0 ↔ a.val = 0 := by
  constructor
  · intro h; rw [h, val_zero]
  · intro h; exact Fin.ext (by rw [h, val_zero])

theorem powm_lt (m f a e : Nat) (hm : 0 < m) : powm m f a e < m := by
  induction f generalizing a e with
  | zero => exact Nat.mod_lt _ hm
  | succ f ih =>
    unfold powm
    split
    · exact Nat.mod_lt _ hm
    · split
      · exact Nat.mod_lt _ hm
      · exact ih _ _

def finv (a : Fr) : Fr := ⟨powm R 64 a.val (R - 2), powm_lt _ _ _ _ R_pos⟩
theorem finv_val (a : Fr) : (finv a).val = a.val ^ (R - 2) % R := powm_eq R 64 a.val (R - 2) (by decide +kernel)

theorem fr_dom (a b : Fr) (h : a * b = 0) : a = 0 ∨ b = 0 := by
  rw [val_eq_zero, val_mul] at h
  refine Classical.byContradiction fun hn => ?_
  have hn := not_or.1 hn
  refine rootR.nonzero (a := a.val) (b := b.val) ?_ ?_ h
  · rw [Nat.mod_eq_of_lt a.isLt]; exact fun e => hn.1 (val_eq_zero.2 e)
  · rw [Nat.mod_eq_of_lt b.isLt]; exact fun e => hn.2 (val_eq_zero.2 e)

theorem finv_mul (a : Fr) (h : a ≠ 0) : a * finv a = 1 := by
  refine Fin.ext ?_
  rw [val_mul, finv_val, val_one, Nat.mul_mod, Nat.mod_mod, ← Nat.mul_mod, Nat.mul_comm, ← Nat.pow_succ]
  have := rootR.fermat a.val (by rw [Nat.mod_eq_of_lt a.isLt]; exact fun e => h (val_eq_zero.2 e))
  rwa [show (R - 2).succ = R - 1 by decide +kernel]

theorem d_nonsq (x : Fr) : x * x ≠ fr 439 := by
  intro h
  have h := congrArg Fin.val h
  rw [val_mul, fr_val] at h
  have := rootR.euler (by decide +kernel) 439 x.val (by decide +kernel) h
  rw [← powm_eq R 64 439 ((R - 1) / 2) (by decide +kernel)] at this
  exact absurd this (by decide +kernel)

/-- The curve. -/
def K : Ground R where
  inv := finv
  d := fr 439
  i := fr (powm R 64 3 ((R - 1) / 4))
  ne := fun h => absurd (congrArg Fin.val h) (by decide +kernel)
  two := fun h => absurd (congrArg Fin.val h) (by decide +kernel)
  dom := fr_dom
  inv_mul := finv_mul
  i2 := Fin.ext (by decide +kernel)
  nd := d_nonsq

abbrev Pt := Pnt K

end Obol
