import Derived.Test.YtallfmiikjmgaaaDoorProg
import Derived.WalkKit
import Derived.KernelRfl
import Derived.Deep.QuietTactic
import Derived.BigQuiet
import Derived.Deep.Draws
import Derived.WalkSpells
import Derived.WalkLawsBesides
import Derived.Laws.Bits64
import Derived.Laws.Bits64b
import Derived.Laws.BitsAllLaws
import Derived.Lib.Hide
import Derived.Lib.Mul64
import Derived.Lib.BitFns
import Derived.Lib.ItoaNum
import Derived.Lib.Strings
import Derived.Lib.Slices
import Derived.Lib.Small
import Derived.Lib.Walk
import Derived.Below
import Derived.Laws.Rows
import Derived.RowKit
import Derived.Test.YtallfmiikjmgaaaDoorMA
import Derived.Deep.RegionHeld3
import Derived.Deep.CutBlock
import Derived.Deep.LoopGhost
import Derived.Deep.DeepCutAuto
import Derived.Deep.RegionWith
import Derived.BigRegion
/- Whole blocks of memory, and what lies below a bound. -/
namespace Go.Proofs.YtallfmiikjmgaaaDoor
open Go.RowKit

theorem bDrewN {B : Nat} {a w : World} (h : Below B a w) (n : Nat) : Below B a (w.drewN n) := ⟨h.os, h.tape, h.output, h.size, h.block⟩
theorem bDrew {B : Nat} {a w : World} (h : Below B a w) : Below B a w.drew := ⟨h.os, h.tape, h.output, h.size, h.block⟩
theorem bSet {B : Nat} {a w : World} (h : Below B a w) {b o : Nat} (hp : B ≤ b) {u : Value} : Below B a (w.setCell ⟨b, o, none⟩ u) := h.setCell hp u
theorem bAlloc {w W : World} (h : Below w.heap.size w W) (o : Obj) : Below w.heap.size w (W.alloc o) := h.alloc h.size o

theorem bcell {W w1 : World} (hb : Below W.heap.size W w1) : (∀ b o, b < W.heap.size → w1.cell? ⟨b, o, none⟩ = W.cell? ⟨b, o, none⟩) ∧ (∀ b o, b < W.heap.size → w1.frozen? ⟨b, o, none⟩ = W.frozen? ⟨b, o, none⟩) :=
  ⟨fun b o h => hb.cell (p := ⟨b, o, none⟩) h, fun b o h => hb.frozen (p := ⟨b, o, none⟩) h⟩

/-! whole blocks -/
def Row (w : World) (b : Nat) (cs : Array Value) (t : TypeId) : Prop := w.heap[b]? = some (.cells cs t (0, 0))
theorem Row.lt {w : World} {b : Nat} {cs : Array Value} {t : TypeId} (h : Row w b cs t) : b < w.heap.size := (Array.getElem?_eq_some_iff.1 h).1
theorem Row.cell {w : World} {b : Nat} {cs : Array Value} {t : TypeId} (h : Row w b cs t) (j : Nat) {v : Value} (hj : cs[j]? = some v) : w.cell? ⟨b, j, none⟩ = some v := (cell_of_row w b j cs t (0, 0) h).trans hj
theorem Row.free {w : World} {b : Nat} {cs : Array Value} {t : TypeId} (h : Row w b cs t) (j : Nat) : w.frozen? ⟨b, j, none⟩ = false := frozen_of_row w b j cs t h
theorem Row.new (w : World) (cs : Array Value) (t : TypeId) : Row (w.alloc (.cells cs t)) w.heap.size cs t := heap_alloc_new w _
theorem Row.new1 (w : World) (o : Obj) (cs : Array Value) (t : TypeId) : Row ((w.alloc o).alloc (.cells cs t)) (w.heap.size + 1) cs t := by have h := Row.new (w.alloc o) cs t; rw [World.size_alloc] at h; exact h
theorem Row.alloc {w : World} {b : Nat} {cs : Array Value} {t : TypeId} (h : Row w b cs t) (o : Obj) : Row (w.alloc o) b cs t := (heap_alloc_old w o h.lt).trans h
theorem Row.below {B : Nat} {w w' : World} {b : Nat} {cs : Array Value} {t : TypeId} (h : Row w b cs t) (hb : Below B w w') (hB : b < B) : Row w' b cs t := (hb.block b hB).trans h
theorem Row.drewN {w : World} {b : Nat} {cs : Array Value} {t : TypeId} (h : Row w b cs t) (n : Nat) : Row (w.drewN n) b cs t := h
theorem Row.drew {w : World} {b : Nat} {cs : Array Value} {t : TypeId} (h : Row w b cs t) : Row w.drew b cs t := h
theorem Row.other {w : World} {b c o : Nat} {cs : Array Value} {t : TypeId} {v : Value} (h : Row w b cs t) (hne : b ≠ c) : Row (w.setCell ⟨c, o, none⟩ v) b cs t := (heap_setCell_other w ⟨c, o, none⟩ b v hne).trans h
theorem Row.set {w : World} {b : Nat} {cs : Array Value} {t : TypeId} (h : Row w b cs t) (i : Nat) (v : Value) : Row (w.setCell ⟨b, i, none⟩ v) b (cs.setIfInBounds i v) t := heap_setCell_same w b i cs t v h
theorem Row.set2 {w : World} {b : Nat} {a0 a1 v0 v1 : Value} {t : TypeId} (h : Row w b #[a0, a1] t) : Row ((w.setCell ⟨b, 0, none⟩ v0).setCell ⟨b, 1, none⟩ v1) b #[v0, v1] t := (h.set 0 v0).set 1 v1
theorem Row.set3 {w : World} {b : Nat} {a0 a1 a2 v0 v1 v2 : Value} {t : TypeId} (h : Row w b #[a0, a1, a2] t) : Row (((w.setCell ⟨b, 0, none⟩ v0).setCell ⟨b, 1, none⟩ v1).setCell ⟨b, 2, none⟩ v2) b #[v0, v1, v2] t := ((h.set 0 v0).set 1 v1).set 2 v2

theorem bThen {B : Nat} {w W w1 : World} (h : Below B w W) (hb : Below W.heap.size W w1) (hB : B ≤ W.heap.size) : Below B w w1 := h.trans (hb.mono hB)
theorem Row.newAt {W : World} {b : Nat} (cs : Array Value) (t : TypeId) (h : W.heap.size = b) : Row (W.alloc (.cells cs t)) b cs t := by subst h; exact Row.new _ _ _

end Go.Proofs.YtallfmiikjmgaaaDoor
/- Walks: math/bits: Mul64, Len64, LeadingZeros64. -/
namespace Go.Proofs.YtallfmiikjmgaaaDoor
open Go.RowKit

theorem ret_u64 {a b : Int} (h : a = b) : Ending.returned (.int .u64 a) = .returned (.int .u64 b) := by rw [h]

/-- A callee that leaves the world alone, met in a region that draws its order. -/
theorem q_same {P : Program} {f : FuncId} {args : Array Value} {w : World} {n : Nat} {v : Value} (h : Calls P f args (w.drewN n) fun e w' => e = .returned v ∧ w.drewN n = w') :
    Calls P f args (w.drewN n) fun e w'' => e = .returned v ∧ ∃ m, w'' = w.drewN m := Calls.quiet_of_same (h.mono fun _ _ h => ⟨h.1, h.2.symm⟩)

theorem quiet_add {P : Program} {f : FuncId} {args : Array Value} {w : World} {a n : Nat} {v : Value} (h : Calls P f args (w.drewN (a + n)) fun e w' => e = .returned v ∧ ∃ m, w' = (w.drewN (a + n)).drewN m) :
    Calls P f args (w.drewN (a + n)) fun e w'' => e = .returned v ∧ ∃ m, w'' = w.drewN (a + m) := h.mono fun _ _ ⟨he, m, hm⟩ => ⟨he, n + m, by rw [hm, World.drewN_drewN, Nat.add_assoc]⟩

theorem maskN (a : Nat) (ha : a < 18446744073709551616) : bits .and .u64 (a : Int) 4294967295 = ((a % 4294967296 : Nat) : Int) := by
  have h := bits_and_u64_nat a 4294967295 ha (by omega)
  have e : a &&& 4294967295 = a % 4294967296 := Nat.and_two_pow_sub_one_eq_mod a 32
  rw [e] at h
  exact h
theorem divN (a : Nat) : (a : Int) / 4294967296 = ((a / 4294967296 : Nat) : Int) := by omega
theorem mulN (a b : Nat) : (a : Int) * (b : Int) = ((a * b : Nat) : Int) := (Int.natCast_mul a b).symm
theorem addN (a b : Nat) : (a : Int) + (b : Int) = ((a + b : Nat) : Int) := (Int.natCast_add a b).symm
theorem wrapN (a : Nat) (ha : a < 18446744073709551616) : IntKind.u64.wrap (a : Int) = (a : Int) := by rw [IntKind.wrap_u64]; omega
theorem wrapM (a : Nat) : IntKind.u64.wrap (a : Int) = ((a % 18446744073709551616 : Nat) : Int) := by rw [IntKind.wrap_u64]; omega

theorem mul64_any (x y : Nat) (hx : x < 18446744073709551616) (hy : y < 18446744073709551616) (w : World) :
    Calls Tryd.prog 100 #[.int .u64 (x : Int), .int .u64 (y : Int)] w fun e w' =>
      e = .returned (.tuple #[.int .u64 ((x * y / 18446744073709551616 : Nat) : Int), .int .u64 ((x * y % 18446744073709551616 : Nat) : Int)]) ∧ w = w' := by
  obtain ⟨bd, bt, bw, hhi⟩ := Lib.mul64_hi x y hx hy
  have ba := Lib.half_mul_le (a := x / 4294967296) (b := y / 4294967296) (by omega) (by omega)
  have bb := Lib.half_mul_le (a := x / 4294967296) (b := y % 4294967296) (by omega) (by omega)
  have bc := Lib.half_mul_le (a := x % 4294967296) (b := y / 4294967296) (by omega) (by omega)
  have ba' : x / 4294967296 * (y / 4294967296) < 18446744073709551616 := by omega
  have bb' : x / 4294967296 * (y % 4294967296) < 18446744073709551616 := by omega
  have bc' : x % 4294967296 * (y / 4294967296) < 18446744073709551616 := by omega
  have bh1 : x / 4294967296 * (y / 4294967296) + (x / 4294967296 * (y % 4294967296) + x % 4294967296 * (y % 4294967296) / 4294967296) / 4294967296 < 18446744073709551616 := by omega
  have bh : x / 4294967296 * (y / 4294967296) + (x / 4294967296 * (y % 4294967296) + x % 4294967296 * (y % 4294967296) / 4294967296) / 4294967296 + ((x / 4294967296 * (y % 4294967296) + x % 4294967296 * (y % 4294967296) / 4294967296) % 4294967296 + x % 4294967296 * (y / 4294967296)) / 4294967296 < 18446744073709551616 := by omega
  have Hhi := Lib.hid hhi
  clear hhi
  go_enter Tryd.func100, Tryd.ntmps100
  go_wp2
  simp only [maskN x hx, maskN y hy, divN, mulN, addN, wrapN _ bd, wrapN _ bb', wrapN _ bt, maskN _ bt, wrapN _ bc', wrapN _ bw, wrapN _ ba', wrapN _ bh1, wrapN _ bh, wrapM (x * y)]
  rw [Hhi.out]
  go_ret2
  exact ⟨rfl, rfl⟩

theorem len8_at (x : Int) (h0 : 0 ≤ x) (h1 : x ≤ 255) {h : x.toNat < Lib.len8tab.size} : ((Lib.len8tab[x.toNat]'h).toNat : Int) = (Lib.bitLen x.toNat : Int) := by
  have e := Lib.len8_of x h0 h1
  unfold Lib.len8 at e
  rw [getElem?_pos Lib.len8tab x.toNat h, Option.getD_some] at e
  exact e
theorem len_arm (K : Int) (D : Nat) (x y : Int) (k0 : 0 ≤ K) (k1 : K ≤ 56) (h0 : 0 ≤ y) (h1 : y ≤ 255) (he : y.toNat = x.toNat / D) (hs : (Lib.bitLen x.toNat : Int) = K + Lib.bitLen (x.toNat / D)) {h : y.toNat < Lib.len8tab.size} :
    wrap64 (K + wrap64 ((Lib.len8tab[y.toNat]'h).toNat : Int)) = (Lib.bitLen x.toNat : Int) := by
  have l := Lib.bitLen_le8' y h0 h1
  rw [len8_at y h0 h1, he, hs]
  rw [he] at l
  unfold wrap64
  omega
theorem len_arm0 (x : Int) (h0 : 0 ≤ x) (h1 : x ≤ 255) {h : x.toNat < Lib.len8tab.size} : wrap64 (wrap64 ((Lib.len8tab[x.toNat]'h).toNat : Int)) = (Lib.bitLen x.toNat : Int) := by
  have l := Lib.bitLen_le8' x h0 h1
  rw [len8_at x h0 h1]
  unfold wrap64
  omega

set_option maxHeartbeats 4000000 in
set_option maxRecDepth 100000 in
theorem len64_any (x : Int) (w : World) (h0 : 0 ≤ x) (h1 : x ≤ 18446744073709551615) :
    Calls Tryd.prog 115 #[.int .u64 x] w fun e w' => e = .returned (.int .i64 (Lib.bitLen x.toNat)) ∧ w = w' := by
  have hsz := Lib.len8tab_size
  go_enter Tryd.func115, Tryd.ntmps115
  go_wp2
  all_goals (go_ret; refine ⟨congrArg Ending.returned (congrArg (Value.int IntKind.i64) ?_), rfl⟩)
  · exact len_arm 56 72057594037927936 x _ (by omega) (by omega) (by omega) (by omega) (by omega) (by have := Lib.bitLen_shift56 x.toNat (by omega) (by omega); omega)
  · exact len_arm 48 281474976710656 x _ (by omega) (by omega) (by omega) (by omega) (by omega) (by have := Lib.bitLen_shift48 x.toNat (by omega) (by omega); omega)
  · exact len_arm 40 1099511627776 x _ (by omega) (by omega) (by omega) (by omega) (by omega) (by have := Lib.bitLen_shift40 x.toNat (by omega) (by omega); omega)
  · exact len_arm 32 4294967296 x _ (by omega) (by omega) (by omega) (by omega) (by omega) (by have := Lib.bitLen_shift32 x.toNat (by omega) (by omega); omega)
  · exact len_arm 24 16777216 x _ (by omega) (by omega) (by omega) (by omega) (by omega) (by have := Lib.bitLen_shift24 x.toNat (by omega) (by omega); omega)
  · exact len_arm 16 65536 x _ (by omega) (by omega) (by omega) (by omega) (by omega) (by have := Lib.bitLen_shift16 x.toNat (by omega) (by omega); omega)
  · exact len_arm 8 256 x _ (by omega) (by omega) (by omega) (by omega) (by omega) (by have := Lib.bitLen_shift8 x.toNat (by omega) (by omega); omega)
  · exact len_arm0 x (by omega) (by omega)

theorem bitLen_le64 (x : Nat) (h : x < 18446744073709551616) : Lib.bitLen x ≤ 64 := Lib.bitLen_le x 64 (by omega) (by simpa using h)

theorem lz64_any (x : Nat) (w : World) (h1 : x < 18446744073709551616) :
    Calls Tryd.prog 111 #[.int .u64 (x : Int)] w fun e w' => e = .returned (.int .i64 ((64 - Lib.bitLen x : Nat) : Int)) ∧ w = w' := by
  have l := bitLen_le64 x h1
  have hx : ((x : Int)).toNat = x := Int.toNat_natCast x
  have HX := Lib.hid hx
  clear hx
  go_enter Tryd.func111, Tryd.ntmps111
  go_wp2_with (go_at_call 115; refine (len64_any _ _ (by omega) (by omega)).mono ?_; rintro e w' ⟨rfl, rfl⟩)
  go_ret
  refine ⟨congrArg Ending.returned (congrArg (Value.int IntKind.i64) ?_), rfl⟩
  omega

end Go.Proofs.YtallfmiikjmgaaaDoor
/- A region that draws its order, operation by operation. -/
namespace Go.Proofs.YtallfmiikjmgaaaDoor
open Go.RowKit

/-! a region that draws, op by op -/
section
variable {P : Program} {ops : List Oper} {Q : Exit → Act → World → Prop} {md : Region.Mode} {S : World → Prop}
theorem takeH (i : Nat) {oi : Oper} {v : Value} {fuel : Nat} {listed : Array Bool} {a : Act} {w : World} (hQ : ∀ c a d v w, Q (.panic c) (a.put d v) w → Q (.panic c) a w) (hs : Region.noSelect ops.toArray = true) (hS : S w)
    (hi : ops[i]? = some oi) (hf : (Region.free md ops.toArray listed i && (Region.ready md ops.toArray listed).contains i) = true)
    (hw : Region.wanted oi (yielded ops.toArray a.tmps) = true) (hv : ∀ w, S w → (execOp a.eval oi).run P w = .ok (.value v) w)
    (h : wpAnyH P md ops.toArray Q S fuel (listed.setIfInBounds i true) (a.put oi.dst v) w) : wpAnyH P md ops.toArray Q S (fuel + 1) listed a w := by
  rw [Bool.and_eq_true] at hf
  exact wpAnyH_take (by rw [List.getElem?_toArray]; exact hi) hs hf.1 hf.2 (fun c a w h => hQ c a _ _ w h) (Or.inl ⟨hw, hv⟩) hS h
theorem skipH (i : Nat) {oi : Oper} {fuel : Nat} {listed : Array Bool} {a : Act} {w : World} (hQ : ∀ c a d v w, Q (.panic c) (a.put d v) w → Q (.panic c) a w) (hs : Region.noSelect ops.toArray = true) (hS : S w)
    (hi : ops[i]? = some oi) (hf : (Region.free md ops.toArray listed i && (Region.ready md ops.toArray listed).contains i) = true)
    (hw : Region.wanted oi (yielded ops.toArray a.tmps) = false)
    (h : wpAnyH P md ops.toArray Q S fuel (listed.setIfInBounds i true) (a.put oi.dst undef) w) : wpAnyH P md ops.toArray Q S (fuel + 1) listed a w := by
  rw [Bool.and_eq_true] at hf
  exact wpAnyH_take (by rw [List.getElem?_toArray]; exact hi) hs hf.1 hf.2 (fun c a w h => hQ c a _ _ w h) (Or.inr ⟨hw, rfl⟩) hS h
theorem stepH (i : Nat) {oi : Oper} {fuel : Nat} {listed : Array Bool} {a : Act} {w : World} (hr : Region.ready md ops.toArray listed = [i]) (hi : ops[i]? = some oi)
    (hw : Region.wanted oi (yielded ops.toArray a.tmps) = true)
    (h : ∀ K' : Act → World → Prop, Shut (∀ a w, S w → (S w → wpAnyH P md ops.toArray Q S fuel (listed.setIfInBounds i true) a w) → K' a w) → Oper.wp P oi a w K' Q) : wpAnyH P md ops.toArray Q S (fuel + 1) listed a w :=
  wpAnyH_ready hr (by simp) (AllReadyH.cons (by rw [List.getElem?_toArray]; exact hi) (fun K hK => by rw [if_pos hw]; exact h K hK) AllReadyH.nil)
end

end Go.Proofs.YtallfmiikjmgaaaDoor
/- Walks: math/bits: Div64. -/
namespace Go.Proofs.YtallfmiikjmgaaaDoor
open Go.RowKit

theorem join64 (a b s : Nat) (ha : a % 2 ^ s = 0) (hb : b < 2 ^ s) (h : a + b < 18446744073709551616) : bits .or .u64 (a : Int) (b : Int) = ((a + b : Nat) : Int) := by
  rw [u64_or_nat a b (by omega) (by omega), nat_join s a b ha hb]
theorem wrap3 (a b c r : Int) (h : a + b - c = r) (h0 : 0 ≤ r) (h1 : r < 18446744073709551616) : IntKind.u64.wrap (IntKind.u64.wrap (IntKind.u64.wrap a + b) - IntKind.u64.wrap c) = r := by
  simp only [IntKind.wrap_u64]
  omega

/-- What is shifted, in numbers. -/
theorem shifted {hi lo y s : Nat} (hs : s ≤ 63) (hl : lo < 18446744073709551616) (hy : hi < y) (hY : y * 2 ^ s < 18446744073709551616) :
    ∃ U L : Nat, bits .or .u64 (IntKind.u64.wrap ((hi : Int) * 2 ^ s)) ((lo : Int) / 2 ^ (64 - s)) = (U : Int) ∧ IntKind.u64.wrap ((lo : Int) * 2 ^ s) = (L : Int) ∧ L < 18446744073709551616 ∧ U < y * 2 ^ s ∧
      (hi * 18446744073709551616 + lo) * 2 ^ s = U * 18446744073709551616 + L := by
  have e64 : 2 ^ (64 - s) * 2 ^ s = 18446744073709551616 := by rw [← Nat.pow_add, show 64 - s + s = 64 by omega]
  have hp : 0 < 2 ^ s := Nat.pow_pos (by omega)
  have h2 : lo / 2 ^ (64 - s) < 2 ^ s := by
    rw [Nat.div_lt_iff_lt_mul (Nat.pow_pos (by omega)), Nat.mul_comm, e64]
    exact hl
  have h3 : (hi + 1) * 2 ^ s ≤ y * 2 ^ s := Nat.mul_le_mul_right _ hy
  rw [Nat.succ_mul] at h3
  refine ⟨hi * 2 ^ s + lo / 2 ^ (64 - s), lo * 2 ^ s % 18446744073709551616, ?_, ?_, Nat.mod_lt _ (by omega), by omega, ?_⟩
  · have e1 : (hi : Int) * 2 ^ s = ((hi * 2 ^ s : Nat) : Int) := by rw [Int.natCast_mul, Int.natCast_pow]; rfl
    have e2 : (lo : Int) / 2 ^ (64 - s) = ((lo / 2 ^ (64 - s) : Nat) : Int) := by rw [Int.natCast_ediv, Int.natCast_pow]; rfl
    rw [e1, e2, wrapN _ (by omega)]
    exact join64 _ _ s (Nat.mul_mod_left _ _) h2 (by omega)
  · have e1 : (lo : Int) * 2 ^ s = ((lo * 2 ^ s : Nat) : Int) := by rw [Int.natCast_mul, Int.natCast_pow]; rfl
    rw [e1, wrapM]
  · have e3 : lo * 2 ^ s / 18446744073709551616 = lo / 2 ^ (64 - s) := by
      rw [← e64, Nat.mul_div_mul_right _ _ hp]
    have e4 := Nat.div_add_mod (lo * 2 ^ s) 18446744073709551616
    rw [e3] at e4
    rw [Nat.add_mul, Nat.mul_right_comm]
    generalize hi * 2 ^ s = a at *
    generalize lo / 2 ^ (64 - s) = b at *
    generalize lo * 2 ^ s = c at *
    omega

/-- What holds of a guess q and its rest r. -/
structure Guess (A B D T U Y : Nat) (q r : Int) : Prop where
  q0 : 0 ≤ q
  r0 : 0 ≤ r
  eq : q.toNat * A + r.toNat = U
  le : T ≤ q.toNat
  q1 : q.toNat ≤ 4294967297
  hY : Y = A * 4294967296 + B
  hYp : 0 < Y
  hT : T = (U * 4294967296 + D) / Y
  hB : B < 4294967296
  hD : D < 4294967296

theorem nat_mul_wrap {q : Int} {B : Nat} (h0 : 0 ≤ q) (h1 : q < 4294967296) (hB : B < 4294967296) : IntKind.u64.wrap (q * (B : Int)) = ((q.toNat * B : Nat) : Int) := by
  obtain ⟨n, rfl⟩ := Int.eq_ofNat_of_zero_le h0
  have hle : n * B ≤ 4294967295 * 4294967295 := Nat.mul_le_mul (by omega) (by omega)
  rw [mulN, wrapN _ (by omega), Int.toNat_natCast]
theorem nat_sum_wrap {r : Int} {D : Nat} (h0 : 0 ≤ r) (h1 : r < 4294967296) (hD : D < 4294967296) : IntKind.u64.wrap (4294967296 * r + (D : Int)) = ((4294967296 * r.toNat + D : Nat) : Int) := by
  rw [IntKind.wrap_u64]
  omega

theorem Guess.big {A B D T U Y : Nat} {q r : Int} (h : Guess A B D T U Y q r) (hr : r < 4294967296) (hT : T < 4294967296)
    (hor : 4294967296 ≤ q ∨ (q < 4294967296 ∧ IntKind.u64.wrap (4294967296 * r + (D : Int)) < IntKind.u64.wrap (q * (B : Int)))) : T < q.toNat := by
  rcases hor with h1 | ⟨h1, h2⟩
  · omega
  · rw [nat_mul_wrap h.q0 h1 h.hB, nat_sum_wrap h.r0 hr h.hD] at h2
    rw [h.hT]
    exact Obol.guess_big h.hY h.hYp h.eq (by omega)

theorem Guess.fits {A B D T U Y : Nat} {q r : Int} (h : Guess A B D T U Y q r) (hr : r < 4294967296)
    (h1 : q < 4294967296) (h2 : IntKind.u64.wrap (q * (B : Int)) ≤ IntKind.u64.wrap (4294967296 * r + (D : Int))) : q = (T : Int) := by
  rw [nat_mul_wrap h.q0 h1 h.hB, nat_sum_wrap h.r0 hr h.hD] at h2
  have := Obol.guess_fits h.hY h.hYp h.eq (show q.toNat * B ≤ 4294967296 * r.toNat + D by omega)
  rw [← h.hT] at this
  have := h.le
  have := h.q0
  omega

theorem Guess.next {A B D T U Y : Nat} {q r : Int} (h : Guess A B D T U Y q r) (hlt : T < q.toNat) : Guess A B D T U Y (q - 1) (r + (A : Int)) := by
  have h0 := h.q0
  have h1 := h.r0
  have h2 := h.q1
  have h3 := h.eq
  have e1 : (q - 1).toNat + 1 = q.toNat := by omega
  have e2 : (r + (A : Int)).toNat = r.toNat + A := by omega
  refine ⟨by omega, by omega, ?_, by omega, by omega, h.hY, h.hYp, h.hT, h.hB, h.hD⟩
  rw [← e1, Nat.succ_mul] at h3
  omega

theorem Guess.over {A B D T U Y : Nat} {q r : Int} (h : Guess A B D T U Y q r) (hr : 4294967296 ≤ r) (hq : q.toNat ≤ 4294967296) : q = (T : Int) := by
  have := Obol.guess_fits h.hY h.hYp h.eq (Obol.guess_over (d := D) h.hB hq (by omega))
  rw [← h.hT] at this
  have := h.le
  have := h.q0
  omega

theorem wrap_pred {q : Int} (h0 : 1 ≤ q) (h1 : q ≤ 4294967297) : IntKind.u64.wrap (q - 1) = q - 1 := by rw [IntKind.wrap_u64]; omega

set_option maxRecDepth 100000 in
set_option maxHeartbeats 2000000 in
theorem div64_any (hi lo y s Y : Nat) (w : World) (h0 : 1 ≤ hi) (hy : hi < y) (hyl : y < 18446744073709551616) (hl : lo < 18446744073709551616) (hs : s ≤ 63) (Hs : Hid (64 - Lib.bitLen y = s))
    (HY : Hid (Y = y * 2 ^ s)) (hY1 : 9223372036854775808 ≤ Y) (hY2 : Y < 18446744073709551616) :
    Calls Tryd.prog 101 #[.int .u64 (hi : Int), .int .u64 (lo : Int), .int .u64 (y : Int)] w fun e w' =>
      ∃ q : Int, e = .returned (.tuple #[.int .u64 q, .int .u64 (((hi * 18446744073709551616 + lo) % y : Nat) : Int)]) ∧ w = w' := by
  have hz := lz64_any y w hyl
  rw [Hs.out] at hz
  have Hz := Lib.hid hz
  clear hz
  have f1 : ((y : Int) == 0) = false := by rw [beq_eq_false_iff_ne]; omega
  have f2 : (hi : Int) < (y : Int) := by omega
  have f3 : ((hi : Int) == 0) = false := by rw [beq_eq_false_iff_ne]; omega
  obtain ⟨U, L, r4, r5, hL, hU, heq⟩ := shifted hs hl hy (HY.out ▸ hY2)
  have Heq := Lib.hid heq
  clear heq
  rw [← HY.out] at hU
  have r1 : IntKind.u64.wrap ((y : Int) * 2 ^ s) = (Y : Int) := by
    have e1 : (y : Int) * 2 ^ s = ((y * 2 ^ s : Nat) : Int) := by rw [Int.natCast_mul, Int.natCast_pow]; rfl
    rw [e1, ← HY.out, wrapN _ hY2]
  obtain ⟨A, HA⟩ : ∃ A : Nat, Hid (A = Y / 4294967296) := ⟨_, rfl⟩
  obtain ⟨B0, HB⟩ : ∃ B : Nat, Hid (B = Y % 4294967296) := ⟨_, rfl⟩
  obtain ⟨D1, HD1⟩ : ∃ B : Nat, Hid (B = L / 4294967296) := ⟨_, rfl⟩
  obtain ⟨D0, HD0⟩ : ∃ B : Nat, Hid (B = L % 4294967296) := ⟨_, rfl⟩
  have a1 : 2147483648 ≤ A ∧ A < 4294967296 := by have := HA.out; omega
  have a2 : B0 < 4294967296 := by have := HB.out; omega
  have a3 : D1 < 4294967296 := by have := HD1.out; omega
  have a4 : D0 < 4294967296 := by have := HD0.out; omega
  have HYY : Hid (Y = A * 4294967296 + B0) := by have h1 := HA.out; have h2 := HB.out; show Y = _; omega
  have HL2 : Hid (L = D1 * 4294967296 + D0) := by have h1 := HD1.out; have h2 := HD0.out; show L = _; omega
  obtain ⟨Q, HQ⟩ : ∃ B : Nat, Hid (B = U / A) := ⟨_, rfl⟩
  obtain ⟨RH, HR⟩ : ∃ B : Nat, Hid (B = U % A) := ⟨_, rfl⟩
  have HQR : Hid (Q * A + RH = U) := by have := Nat.div_add_mod U A; rw [Nat.mul_comm, ← HQ.out, ← HR.out] at this; exact this
  have q1 : Q ≤ 4294967297 := by rw [HQ.out]; exact Obol.guess_near HYY.out a2 (by omega) hU
  have q2 : RH < 4294967296 := by have := Nat.mod_lt U (show 0 < A by omega); rw [← HR.out] at this; omega
  have hYp : 0 < Y := by omega
  obtain ⟨T1, HT1⟩ : ∃ B : Nat, Hid (B = (U * 4294967296 + D1) / Y) := ⟨_, rfl⟩
  have t1 : T1 < 4294967296 := by rw [HT1.out]; exact Obol.digit_lt a3 hU
  have t2 : T1 ≤ Q := by rw [HT1.out, HQ.out]; exact Obol.guess_le HYY.out (by omega) a3
  -- the walk's numbers, as whole numbers with names of their own
  obtain ⟨Ai, hA0⟩ : ∃ z : Int, z = (A : Int) := ⟨_, rfl⟩
  obtain ⟨Bi, hB0⟩ : ∃ z : Int, z = (B0 : Int) := ⟨_, rfl⟩
  obtain ⟨D1i, hD10⟩ : ∃ z : Int, z = (D1 : Int) := ⟨_, rfl⟩
  obtain ⟨D0i, hD00⟩ : ∃ z : Int, z = (D0 : Int) := ⟨_, rfl⟩
  obtain ⟨Ui, hU0⟩ : ∃ z : Int, z = (U : Int) := ⟨_, rfl⟩
  obtain ⟨Yi, hY0⟩ : ∃ z : Int, z = (Y : Int) := ⟨_, rfl⟩
  obtain ⟨Li, hL0⟩ : ∃ z : Int, z = (L : Int) := ⟨_, rfl⟩
  obtain ⟨Qi, hQ0⟩ : ∃ z : Int, z = (Q : Int) := ⟨_, rfl⟩
  obtain ⟨Ri, hR0⟩ : ∃ z : Int, z = (RH : Int) := ⟨_, rfl⟩
  -- the second digit's
  obtain ⟨V, HV⟩ : ∃ B : Nat, Hid (B = (U * 4294967296 + D1) % Y) := ⟨_, rfl⟩
  have v1 : V < Y := by rw [HV.out]; exact Nat.mod_lt _ hYp
  obtain ⟨Q2, HQ2⟩ : ∃ B : Nat, Hid (B = V / A) := ⟨_, rfl⟩
  obtain ⟨R2, HR2⟩ : ∃ B : Nat, Hid (B = V % A) := ⟨_, rfl⟩
  have HQR2 : Hid (Q2 * A + R2 = V) := by have := Nat.div_add_mod V A; rw [Nat.mul_comm, ← HQ2.out, ← HR2.out] at this; exact this
  have q3 : Q2 ≤ 4294967297 := by rw [HQ2.out]; exact Obol.guess_near HYY.out a2 (by omega) v1
  have q4 : R2 < 4294967296 := by have := Nat.mod_lt V (show 0 < A by omega); rw [← HR2.out] at this; omega
  obtain ⟨T0, HT0⟩ : ∃ B : Nat, Hid (B = (V * 4294967296 + D0) / Y) := ⟨_, rfl⟩
  have t3 : T0 < 4294967296 := by rw [HT0.out]; exact Obol.digit_lt a4 v1
  have t4 : T0 ≤ Q2 := by rw [HT0.out, HQ2.out]; exact Obol.guess_le HYY.out (by omega) a4
  obtain ⟨Z, HZ⟩ : ∃ B : Nat, Hid (B = (V * 4294967296 + D0) % Y) := ⟨_, rfl⟩
  have z1 : Z < Y := by rw [HZ.out]; exact Nat.mod_lt _ hYp
  obtain ⟨T1i, hT10⟩ : ∃ z : Int, z = (T1 : Int) := ⟨_, rfl⟩
  obtain ⟨T0i, hT00⟩ : ∃ z : Int, z = (T0 : Int) := ⟨_, rfl⟩
  obtain ⟨Vi, hV0⟩ : ∃ z : Int, z = (V : Int) := ⟨_, rfl⟩
  obtain ⟨Q2i, hQ20⟩ : ∃ z : Int, z = (Q2 : Int) := ⟨_, rfl⟩
  obtain ⟨R2i, hR20⟩ : ∃ z : Int, z = (R2 : Int) := ⟨_, rfl⟩
  obtain ⟨Zi, hZ0⟩ : ∃ z : Int, z = (Z : Int) := ⟨_, rfl⟩
  rw [← hU0] at r4
  rw [← hL0] at r5
  rw [← hY0] at r1
  have r2 : Yi / 4294967296 = Ai := by rw [hY0, hA0, HA.out]; omega
  have r3 : bits .and .u64 Yi 4294967295 = Bi := by rw [hY0, hB0, maskN Y hY2, HB.out]
  have r6 : Li / 4294967296 = D1i := by rw [hL0, hD10, HD1.out]; omega
  have r7 : bits .and .u64 Li 4294967295 = D0i := by rw [hL0, hD00, maskN L hL, HD0.out]
  have r8 : IntKind.u64.wrap (Ui / Ai) = Qi := by
    rw [hU0, hA0, hQ0, ← Int.natCast_ediv, ← HQ.out, wrapN _ (by omega)]
  have r8' : IntKind.u64.wrap (Ui.tdiv Ai) = Qi := by
    rw [Int.tdiv_eq_ediv_of_nonneg (by omega)]; exact r8
  have r9 : IntKind.u64.wrap (Ui - IntKind.u64.wrap (Qi * Ai)) = Ri := by
    have := HQR.out
    have hle : Q * A < 18446744073709551616 := by omega
    rw [hU0, hQ0, hA0, hR0, mulN, wrapN _ hle, show (U : Int) - ((Q * A : Nat) : Int) = (RH : Int) by omega, wrapN _ (by omega)]
  have r10 : IntKind.u64.wrap (IntKind.u64.wrap (IntKind.u64.wrap (Ui * 4294967296) + D1i) - IntKind.u64.wrap (T1i * Yi)) = Vi := by
    have h1 := Nat.div_add_mod (U * 4294967296 + D1) Y
    rw [← HT1.out, ← HV.out, Nat.mul_comm] at h1
    refine wrap3 _ _ _ _ ?_ (by omega) (by omega)
    rw [hT10, hY0, mulN, hU0, hD10, hV0]
    omega
  have r11 : IntKind.u64.wrap (Vi / Ai) = Q2i := by
    rw [hV0, hA0, hQ20, ← Int.natCast_ediv, ← HQ2.out, wrapN _ (by omega)]
  have r11' : IntKind.u64.wrap (Vi.tdiv Ai) = Q2i := by
    rw [Int.tdiv_eq_ediv_of_nonneg (by omega)]; exact r11
  have r12 : IntKind.u64.wrap (Vi - IntKind.u64.wrap (Q2i * Ai)) = R2i := by
    have := HQR2.out
    have hle : Q2 * A < 18446744073709551616 := by omega
    rw [hV0, hQ20, hA0, hR20, mulN, wrapN _ hle, show (V : Int) - ((Q2 * A : Nat) : Int) = (R2 : Int) by omega, wrapN _ (by omega)]
  have r13 : IntKind.u64.wrap (IntKind.u64.wrap (IntKind.u64.wrap (Vi * 4294967296) + D0i) - IntKind.u64.wrap (T0i * Yi)) = Zi := by
    have h1 := Nat.div_add_mod (V * 4294967296 + D0) Y
    rw [← HT0.out, ← HZ.out, Nat.mul_comm] at h1
    refine wrap3 _ _ _ _ ?_ (by omega) (by omega)
    rw [hT00, hY0, mulN, hV0, hD00, hZ0]
    omega
  have r14 : Hid (Zi / 2 ^ s = (((hi * 18446744073709551616 + lo) % y : Nat) : Int)) := by
    have h1 : Z = ((hi * 18446744073709551616 + lo) % y) * 2 ^ s := by
      have h2 : (U * 4294967296 + D1) * 4294967296 + D0 = U * 18446744073709551616 + L := by rw [HL2.out]; omega
      rw [HZ.out, HV.out, Obol.two_digits, h2, ← Nat.mul_mod_mul_right, Heq.out, ← HY.out]
    show _ = _
    rw [hZ0, h1, Int.natCast_mul, Int.natCast_pow]
    exact Int.mul_ediv_cancel _ (by have : (2 : Int) ^ s ≠ 0 := Int.pow_ne_zero (by omega); exact this)
  have i5 : 0 ≤ Vi := by omega
  have i1 : 0 ≤ Ai := by omega
  have i2 : 1 ≤ Ai := by omega
  have i3 : Ai < 4294967296 := by omega
  have i4 : 0 ≤ Ui := by omega
  have B := Lib.hid (And.intro a1 (And.intro a2 (And.intro a3 (And.intro a4 (And.intro t1 (And.intro t2 (And.intro q1 (And.intro q2 (And.intro hU (And.intro hL (And.intro hY1 (And.intro hY2 (And.intro hYp (And.intro q3 (And.intro q4 (And.intro t3 t4))))))))))))))))
  have E := Lib.hid (And.intro hA0 (And.intro hB0 (And.intro hD10 (And.intro hD00 (And.intro hU0 (And.intro hY0 (And.intro hL0 (And.intro hQ0 (And.intro hR0 (And.intro hT10 (And.intro hT00 (And.intro hV0 (And.intro hQ20 hR20)))))))))))))
  have F := Lib.hid (And.intro h0 (And.intro hy (And.intro hyl (And.intro hl hs))))
  clear a1 a2 a3 a4 t1 t2 q1 q2 hU hL hY1 hY2 hYp hA0 hB0 hD10 hD00 hU0 hY0 hL0 hQ0 hR0 h0 hyl hl v1 q3 q4 t3 t4 z1 hT10 hT00 hV0 hQ20 hR20 hZ0
  go_enter Tryd.func101, Tryd.ntmps101
  go_upto_block 0 with (go_at_call 111; refine Hz.out.mono ?_; rintro e w' ⟨rfl, rfl⟩)
  go_cut [15] (fun q wc => q = .int .u64 T1i ∧ w = wc)
  case first =>
    go_wp2_with fail
    clear r1 r2 r3 r4 r5 r6 r7 r8 r8' r9 r10 r11 r11' r12 r13 r14 f1 f2 f3
    have G0 : Guess A B0 D1 T1 U Y Qi Ri := by
      have e := E.out
      have b := B.out
      refine ⟨by omega, by omega, ?_, by omega, by omega, HYY.out, by omega, HT1.out, by omega, by omega⟩
      rw [e.2.2.2.2.2.2.2.1, e.2.2.2.2.2.2.2.2.1]
      exact HQR.out
    go_loop [15, 16] (fun q r => ∃ qn rn : Int, q = .int .u64 qn ∧ r = .int .u64 rn ∧ Guess A B0 D1 T1 U Y qn rn ∧ Hid (rn < 4294967296)) (fun q _ => (intOf q).toNat)
    case atStart => exact ⟨Qi, Ri, rfl, rfl, G0, by have e := E.out; have b := B.out; show Ri < _; omega⟩
    case round =>
      obtain ⟨qn, rn, rfl, rfl, Hq, Hr⟩ := hrel
      rename w = w => hww
      clear hww
      have j1 : 0 ≤ qn := Hq.q0
      have j2 : 0 ≤ rn := Hq.r0
      have j3 : rn < 4294967296 := Hr.out
      have j4 : qn ≤ 4294967297 := by have := Hq.q1; omega
      go_wp2_with fail
      · have k1 : qn < 4294967296 := by assumption
        have k2 : 4294967296 ≤ qn ∨ IntKind.u64.wrap (4294967296 * rn + D1i) < IntKind.u64.wrap (qn * Bi) := by assumption
        have k3 : 4294967296 ≤ rn + Ai := by assumption
        have e := E.out
        have b := B.out
        rw [e.2.1, e.2.2.1] at k2
        have hb := Hq.big Hr.out (by omega) (k2.imp_right fun h => ⟨k1, h⟩)
        have hn := (Hq.next hb).over (by omega) (by omega)
        go_meet
        exact ⟨by rw [wrap_pred (by omega) j4, hn, e.2.2.2.2.2.2.2.2.2.1], rfl⟩
      · have k1 : qn < 4294967296 := by assumption
        have k2 : 4294967296 ≤ qn ∨ IntKind.u64.wrap (4294967296 * rn + D1i) < IntKind.u64.wrap (qn * Bi) := by assumption
        have k3 : rn + Ai < 4294967296 := by assumption
        have e := E.out
        have b := B.out
        rw [e.2.1, e.2.2.1] at k2
        have hb := Hq.big Hr.out (by omega) (k2.imp_right fun h => ⟨k1, h⟩)
        go_round
        case rel => exact ⟨qn - 1, rn + Ai, by rw [wrap_pred (by omega) j4], rfl, by rw [e.1]; exact Hq.next hb, k3⟩
        case measure => simp only [intOf]; rw [wrap_pred (by omega) j4]; omega
      · have k2 : qn < 4294967296 ∧ IntKind.u64.wrap (qn * Bi) ≤ IntKind.u64.wrap (4294967296 * rn + D1i) := by assumption
        have e := E.out
        rw [e.2.1, e.2.2.1] at k2
        have hn := Hq.fits Hr.out k2.1 k2.2
        go_meet
        exact ⟨by rw [hn, e.2.2.2.2.2.2.2.2.2.1], rfl⟩
      · have k1 : 4294967296 ≤ qn := by assumption
        have k3 : 4294967296 ≤ rn + Ai := by assumption
        have e := E.out
        have b := B.out
        have hb := Hq.big Hr.out (by omega) (.inl k1)
        have hn := (Hq.next hb).over (by omega) (by omega)
        go_meet
        exact ⟨by rw [hn, e.2.2.2.2.2.2.2.2.2.1], rfl⟩
      · have k1 : ¬ qn < 4294967296 := by assumption
        have k3 : rn + Ai < 4294967296 := by assumption
        have e := E.out
        have b := B.out
        have hb := Hq.big Hr.out (by omega) (.inl (by omega))
        go_round
        case rel => exact ⟨qn - 1, rn + Ai, rfl, rfl, by rw [e.1]; exact Hq.next hb, k3⟩
        case measure => simp only [intOf]; omega
  case rest =>
    obtain ⟨rfl, rfl⟩ := hcut
    go_upto_block 2 with (fail)
    go_cut [18] (fun q wc => q = .int .u64 T0i ∧ w = wc)
    case first =>
      go_wp2_with fail
      clear r1 r2 r3 r4 r5 r6 r7 r8 r8' r9 r10 r11 r11' r12 r13 r14 f1 f2 f3
      have G0 : Guess A B0 D0 T0 V Y Q2i R2i := by
        have e := E.out
        have b := B.out
        refine ⟨by omega, by omega, ?_, by omega, by omega, HYY.out, by omega, HT0.out, by omega, by omega⟩
        rw [e.2.2.2.2.2.2.2.2.2.2.2.2.1, e.2.2.2.2.2.2.2.2.2.2.2.2.2]
        exact HQR2.out
      go_loop [18, 16] (fun q r => ∃ qn rn : Int, q = .int .u64 qn ∧ r = .int .u64 rn ∧ Guess A B0 D0 T0 V Y qn rn ∧ Hid (rn < 4294967296)) (fun q _ => (intOf q).toNat)
      case atStart => exact ⟨Q2i, R2i, rfl, rfl, G0, by have e := E.out; have b := B.out; show R2i < _; omega⟩
      case round =>
        obtain ⟨qn, rn, rfl, rfl, Hq, Hr⟩ := hrel
        rename w = w => hww
        clear hww
        have j1 : 0 ≤ qn := Hq.q0
        have j2 : 0 ≤ rn := Hq.r0
        have j3 : rn < 4294967296 := Hr.out
        have j4 : qn ≤ 4294967297 := by have := Hq.q1; omega
        go_wp2_with fail
        · have k1 : qn < 4294967296 := by assumption
          have k2 : 4294967296 ≤ qn ∨ IntKind.u64.wrap (4294967296 * rn + D0i) < IntKind.u64.wrap (qn * Bi) := by assumption
          have k3 : 4294967296 ≤ rn + Ai := by assumption
          have e := E.out
          have b := B.out
          rw [e.2.1, e.2.2.2.1] at k2
          have hb := Hq.big Hr.out (by omega) (k2.imp_right fun h => ⟨k1, h⟩)
          have hn := (Hq.next hb).over (by omega) (by omega)
          go_meet
          exact ⟨by rw [wrap_pred (by omega) j4, hn, e.2.2.2.2.2.2.2.2.2.2.1], rfl⟩
        · have k1 : qn < 4294967296 := by assumption
          have k2 : 4294967296 ≤ qn ∨ IntKind.u64.wrap (4294967296 * rn + D0i) < IntKind.u64.wrap (qn * Bi) := by assumption
          have k3 : rn + Ai < 4294967296 := by assumption
          have e := E.out
          have b := B.out
          rw [e.2.1, e.2.2.2.1] at k2
          have hb := Hq.big Hr.out (by omega) (k2.imp_right fun h => ⟨k1, h⟩)
          go_round
          case rel => exact ⟨qn - 1, rn + Ai, by rw [wrap_pred (by omega) j4], rfl, by rw [e.1]; exact Hq.next hb, k3⟩
          case measure => simp only [intOf]; rw [wrap_pred (by omega) j4]; omega
        · have k2 : qn < 4294967296 ∧ IntKind.u64.wrap (qn * Bi) ≤ IntKind.u64.wrap (4294967296 * rn + D0i) := by assumption
          have e := E.out
          rw [e.2.1, e.2.2.2.1] at k2
          have hn := Hq.fits Hr.out k2.1 k2.2
          go_meet
          exact ⟨by rw [hn, e.2.2.2.2.2.2.2.2.2.2.1], rfl⟩
        · have k1 : 4294967296 ≤ qn := by assumption
          have k3 : 4294967296 ≤ rn + Ai := by assumption
          have e := E.out
          have b := B.out
          have hb := Hq.big Hr.out (by omega) (.inl k1)
          have hn := (Hq.next hb).over (by omega) (by omega)
          go_meet
          exact ⟨by rw [hn, e.2.2.2.2.2.2.2.2.2.2.1], rfl⟩
        · have k1 : ¬ qn < 4294967296 := by assumption
          have k3 : rn + Ai < 4294967296 := by assumption
          have e := E.out
          have b := B.out
          have hb := Hq.big Hr.out (by omega) (.inl (by omega))
          go_round
          case rel => exact ⟨qn - 1, rn + Ai, rfl, rfl, by rw [e.1]; exact Hq.next hb, k3⟩
          case measure => simp only [intOf]; omega
    case rest =>
      obtain ⟨rfl, rfl⟩ := hcut
      go_wp2_with fail
      go_ret2
      rw [r14.out]
      exact ⟨_, rfl, rfl⟩

theorem div64_low (lo y : Nat) (w : World) (hy : 0 < y) :
    Calls Tryd.prog 101 #[.int .u64 0, .int .u64 (lo : Int), .int .u64 (y : Int)] w fun e w' =>
      ∃ q : Int, e = .returned (.tuple #[.int .u64 q, .int .u64 ((lo % y : Nat) : Int)]) ∧ ∃ n, w' = w.drewN n := by
  have f1 : ((y : Int) == 0) = false := by rw [beq_eq_false_iff_ne]; omega
  have f2 : (0 : Int) < (y : Int) := by omega
  go_enter Tryd.func101, Tryd.ntmps101
  go_wp2_with fail
  go_quiet (fail)
  go_wp2_with fail
  go_ret2
  exact ⟨_, rfl, _, rfl⟩

theorem div64_ok (hi lo y : Nat) (w : World) (hy : hi < y) (hyl : y < 18446744073709551616) (hl : lo < 18446744073709551616) :
    Calls Tryd.prog 101 #[.int .u64 (hi : Int), .int .u64 (lo : Int), .int .u64 (y : Int)] w fun e w' =>
      ∃ q : Int, e = .returned (.tuple #[.int .u64 q, .int .u64 (((hi * 18446744073709551616 + lo) % y : Nat) : Int)]) ∧ ∃ n, w' = w.drewN n := by
  by_cases h0 : hi = 0
  · subst h0
    rw [Nat.zero_mul, Nat.zero_add]
    exact div64_low lo y w hy
  · obtain ⟨b1, b2, b3⟩ := Lib.bitLenAux_bounds 64 y (by simpa using hyl) (by omega)
    have e1 : Lib.bitLen y = Lib.bitLenAux 64 y := rfl
    rw [← e1] at b1 b2 b3
    have b4 := bitLen_le64 y hyl
    have p1 : 2 ^ (Lib.bitLen y - 1) * 2 ^ (64 - Lib.bitLen y) = 9223372036854775808 := by
      rw [← Nat.pow_add, show Lib.bitLen y - 1 + (64 - Lib.bitLen y) = 63 by omega]
    have p2 : 2 ^ Lib.bitLen y * 2 ^ (64 - Lib.bitLen y) = 18446744073709551616 := by
      rw [← Nat.pow_add, show Lib.bitLen y + (64 - Lib.bitLen y) = 64 by omega]
    have q1 : 9223372036854775808 ≤ y * 2 ^ (64 - Lib.bitLen y) := by rw [← p1]; exact Nat.mul_le_mul_right _ b2
    have q2 : y * 2 ^ (64 - Lib.bitLen y) < 18446744073709551616 := by rw [← p2]; exact Nat.mul_lt_mul_of_pos_right b3 (Nat.pow_pos (by omega))
    refine (div64_any hi lo y (64 - Lib.bitLen y) (y * 2 ^ (64 - Lib.bitLen y)) w (by omega) hy hyl hl (by omega) (Lib.hid rfl) (Lib.hid rfl) q1 q2).mono ?_
    rintro e w' ⟨q, he, rfl⟩
    exact ⟨q, he, 0, rfl⟩

end Go.Proofs.YtallfmiikjmgaaaDoor
/- Walks: package modular: sums, differences, products. -/
namespace Go.Proofs.YtallfmiikjmgaaaDoor
open Go.RowKit

theorem no_ok (m : Int) (h0 : 2 ≤ m) (h1 : m ≤ 4611686018427387904) (w : World) :
    Calls Tryd.prog 79 #[.int .u64 m] w fun e w' => e = .returned (.bool false) ∧ w = w' := by
  go_enter Tryd.func79, Tryd.ntmps79
  go_wp2
  go_ret
  refine ⟨?_, rfl⟩
  show Ending.returned (.bool (decide (m < 2) || decide (4611686018427387904 < m))) = _
  rw [decide_eq_false (by omega), decide_eq_false (by omega)]
  rfl

/-- What the sum and the difference come to, as the walk spells them. -/
theorem end_add (m a b : Int) (h0 : 2 ≤ m) (h1 : m ≤ 4611686018427387904) (ha : 0 ≤ a) (hb : 0 ≤ b) :
    (IntKind.u64.wrap (a % m + b % m)).tmod m = ((Obol.addM m.toNat a.toNat b.toNat : Nat) : Int) := by
  have h2 := Int.emod_nonneg a (show m ≠ 0 by omega)
  have h3 := Int.emod_lt_of_pos a (show 0 < m by omega)
  have h4 := Int.emod_nonneg b (show m ≠ 0 by omega)
  have h5 := Int.emod_lt_of_pos b (show 0 < m by omega)
  rw [IntKind.wrap_u64, Int.emod_eq_of_lt (by omega) (by omega), Int.tmod_eq_emod_of_nonneg (by omega), ← Int.add_emod, Obol.addM, Int.natCast_emod, Int.natCast_add, Int.toNat_of_nonneg ha, Int.toNat_of_nonneg hb, Int.toNat_of_nonneg (by omega)]
theorem end_sub (m a b : Int) (h0 : 2 ≤ m) (h1 : m ≤ 4611686018427387904) (ha : 0 ≤ a) (hb : 0 ≤ b) :
    (IntKind.u64.wrap (IntKind.u64.wrap (a % m + m) - b % m)).tmod m = ((Obol.subM m.toNat a.toNat b.toNat : Nat) : Int) := by
  have h2 := Int.emod_nonneg a (show m ≠ 0 by omega)
  have h3 := Int.emod_lt_of_pos a (show 0 < m by omega)
  have h4 := Int.emod_nonneg b (show m ≠ 0 by omega)
  have h5 := Int.emod_lt_of_pos b (show 0 < m by omega)
  have e1 : (((a.toNat % m.toNat : Nat)) : Int) = a % m := by rw [Int.natCast_emod, Int.toNat_of_nonneg ha, Int.toNat_of_nonneg (by omega)]
  have e2 : (((b.toNat % m.toNat : Nat)) : Int) = b % m := by rw [Int.natCast_emod, Int.toNat_of_nonneg hb, Int.toNat_of_nonneg (by omega)]
  rw [IntKind.wrap_u64 (a % m + m), Int.emod_eq_of_lt (by omega) (by omega), IntKind.wrap_u64, Int.emod_eq_of_lt (by omega) (by omega), Int.tmod_eq_emod_of_nonneg (by omega), Obol.subM, Int.natCast_emod, Int.natCast_sub (by omega), Int.natCast_add, e1, e2, Int.toNat_of_nonneg (by omega)]

theorem mAdd (m a b : Int) (h0 : 2 ≤ m) (h1 : m ≤ 4611686018427387904) (ha : 0 ≤ a) (hb : 0 ≤ b) (w : World) :
    Calls Tryd.prog 52 #[.int .u64 m, .int .u64 a, .int .u64 b] w fun e w' => e = .returned (.int .u64 ((Obol.addM m.toNat a.toNat b.toNat : Nat) : Int)) ∧ ∃ n, w' = w.drewN n := by
  have he := Lib.hid (end_add m a b h0 h1 ha hb)
  go_enter Tryd.func52, Tryd.ntmps52
  go_wp2_with (go_at_call 79; refine (no_ok _ h0 h1 _).mono ?_; rintro e w' ⟨rfl, rfl⟩)
  go_quiet (fail)
  go_wp2
  go_ret
  exact ⟨ret_u64 he.out, _, rfl⟩

theorem mSub (m a b : Int) (h0 : 2 ≤ m) (h1 : m ≤ 4611686018427387904) (ha : 0 ≤ a) (hb : 0 ≤ b) (w : World) :
    Calls Tryd.prog 83 #[.int .u64 m, .int .u64 a, .int .u64 b] w fun e w' => e = .returned (.int .u64 ((Obol.subM m.toNat a.toNat b.toNat : Nat) : Int)) ∧ ∃ n, w' = w.drewN n := by
  have he := Lib.hid (end_sub m a b h0 h1 ha hb)
  go_enter Tryd.func83, Tryd.ntmps83
  go_wp2_with (go_at_call 79; refine (no_ok _ h0 h1 _).mono ?_; rintro e w' ⟨rfl, rfl⟩)
  go_quiet (fail)
  go_wp2
  go_ret
  exact ⟨ret_u64 he.out, _, rfl⟩

theorem mMul (m a b : Int) (h0 : 2 ≤ m) (h1 : m ≤ 4611686018427387904) (ha : 0 ≤ a) (hb : 0 ≤ b) (w : World) :
    Calls Tryd.prog 84 #[.int .u64 m, .int .u64 a, .int .u64 b] w fun e w' => e = .returned (.int .u64 ((Obol.mulM m.toNat a.toNat b.toNat : Nat) : Int)) ∧ ∃ n, w' = w.drewN n := by
  obtain ⟨M, hM⟩ := Int.eq_ofNat_of_zero_le (show 0 ≤ m by omega)
  obtain ⟨A, hA⟩ := Int.eq_ofNat_of_zero_le ha
  obtain ⟨B, hB⟩ := Int.eq_ofNat_of_zero_le hb
  have hm0 : 0 < M := by omega
  have la := Nat.mod_lt A hm0
  have lb := Nat.mod_lt B hm0
  have hlt : A % M * (B % M) < M * M := Nat.mul_lt_mul'' la lb
  have hmm : M * M ≤ M * 18446744073709551616 := Nat.mul_le_mul_left _ (by omega)
  have hhi : A % M * (B % M) / 18446744073709551616 < M := by rw [Nat.div_lt_iff_lt_mul (by omega)]; omega
  have c1 := fun w => mul64_any (A % M) (B % M) (by omega) (by omega) w
  have c2 := fun w => div64_ok (A % M * (B % M) / 18446744073709551616) (A % M * (B % M) % 18446744073709551616) M w hhi (by omega) (Nat.mod_lt _ (by omega))
  rw [show A % M * (B % M) / 18446744073709551616 * 18446744073709551616 + A % M * (B % M) % 18446744073709551616 = A % M * (B % M) from by rw [Nat.mul_comm]; exact Nat.div_add_mod _ _, ← Nat.mul_mod] at c2
  have hr : ((A * B % M : Nat) : Int) = ((Obol.mulM m.toNat a.toNat b.toNat : Nat) : Int) := by rw [hM, hA, hB]; rfl
  rw [hr] at c2
  generalize hH : A % M * (B % M) / 18446744073709551616 = H at c1 c2
  generalize hL : A % M * (B % M) % 18446744073709551616 = L at c1 c2
  rw [← hM] at c2
  have e1 : a % m = ((A % M : Nat) : Int) := by rw [hA, hM]; rfl
  have e2 : b % m = ((B % M : Nat) : Int) := by rw [hB, hM]; rfl
  generalize ((A % M : Nat) : Int) = X at c1 e1
  generalize ((B % M : Nat) : Int) = Y at c1 e2
  have e3 : a.tmod m = X := by rw [Int.tmod_eq_emod_of_nonneg ha]; exact e1
  have e4 : b.tmod m = Y := by rw [Int.tmod_eq_emod_of_nonneg hb]; exact e2
  have C1 := Lib.hid c1
  have C2 := Lib.hid c2
  have HN := Lib.hid (fun w => no_ok m h0 h1 w)
  have hz : ¬ m = 0 := by omega
  have hz2 : (m == 0) = false := by rw [beq_eq_false_iff_ne]; omega
  clear c1 c2 hlt hmm hhi la lb hM hA hB hm0 hH hL
  go_enter Tryd.func84, Tryd.ntmps84
  go_wp2_with (go_at_call 79; refine (HN.out _).mono ?_; rintro e w' ⟨rfl, rfl⟩)
  go_quiet ((go_at_call 100; exact q_same (C1.out _)))
  go_wp2_with (go_at_call 101; refine (C2.out _).mono ?_; rintro e w' ⟨q, rfl, n, rfl⟩)
  go_ret
  exact ⟨rfl, _, rfl⟩

end Go.Proofs.YtallfmiikjmgaaaDoor
/- Walks: package modular: powers. -/
namespace Go.Proofs.YtallfmiikjmgaaaDoor
open Go.RowKit

structure PowInv (M A E : Nat) (O X en : Int) : Prop where
  o0 : 0 ≤ O
  x0 : 0 ≤ X
  e0 : 0 ≤ en
  e1 : en ≤ 18446744073709551615
  lt : O.toNat < M
  eq : O.toNat * X.toNat ^ en.toNat % M = A ^ E % M

theorem PowInv.one {M A E : Nat} {O X en : Int} (h : PowInv M A E O X en) (hp : 0 < en) (ho : en % 2 = 1) :
    PowInv M A E ((Obol.mulM M O.toNat X.toNat : Nat) : Int) ((Obol.mulM M X.toNat X.toNat : Nat) : Int) (en / 2) := by
  have h0 := h.e0
  have h1 := h.e1
  have hM : 0 < M := Nat.lt_of_le_of_lt (Nat.zero_le _) h.lt
  refine ⟨by omega, by omega, by omega, by omega, by rw [Int.toNat_natCast]; exact Nat.mod_lt _ hM, ?_⟩
  have := Obol.low_pow M X.toNat en.toNat O.toNat (by omega)
  rw [if_pos (by omega)] at this
  rw [Int.toNat_natCast, Int.toNat_natCast, show (en / 2).toNat = en.toNat / 2 by omega]
  exact this.trans h.eq
theorem PowInv.zero {M A E : Nat} {O X en : Int} (h : PowInv M A E O X en) (hp : 0 < en) (ho : en % 2 = 0) :
    PowInv M A E O ((Obol.mulM M X.toNat X.toNat : Nat) : Int) (en / 2) := by
  have h0 := h.e0
  have h1 := h.e1
  have ho0 := h.o0
  refine ⟨ho0, by omega, by omega, by omega, h.lt, ?_⟩
  have := Obol.low_pow M X.toNat en.toNat O.toNat (by omega)
  rw [if_neg (by omega)] at this
  rw [Int.toNat_natCast, show (en / 2).toNat = en.toNat / 2 by omega]
  exact this.trans h.eq
theorem PowInv.done {M A E : Nat} {O X en : Int} (h : PowInv M A E O X en) (hp : en = 0) : O = ((Obol.powM M A E : Nat) : Int) := by
  have h1 := h.eq
  have h2 := h.o0
  rw [hp, show (0 : Int).toNat = 0 from rfl, Nat.pow_zero, Nat.mul_one, Nat.mod_eq_of_lt h.lt] at h1
  rw [Obol.powM, ← h1]
  omega

set_option maxHeartbeats 1000000 in
theorem mPow (m a x : Int) (h0 : 2 ≤ m) (h1 : m ≤ 4611686018427387904) (ha : 0 ≤ a) (hx : 0 ≤ x) (hx1 : x ≤ 18446744073709551615) (w : World) :
    Calls Tryd.prog 56 #[.int .u64 m, .int .u64 a, .int .u64 x] w fun e w' => e = .returned (.int .u64 ((Obol.powM m.toNat a.toNat x.toNat : Nat) : Int)) ∧ ∃ n, w' = w.drewN n := by
  have i0 : PowInv m.toNat a.toNat x.toNat 1 (a % m) x := by
    refine ⟨by omega, Int.emod_nonneg a (by omega), hx, hx1, by omega, ?_⟩
    rw [show (1 : Int).toNat = 1 from rfl, Nat.one_mul, Int.toNat_emod ha (by omega), ← Nat.pow_mod]
  have I0 := Lib.hid i0
  clear i0
  go_enter Tryd.func56, Tryd.ntmps56
  go_wp2_with (go_at_call 79; refine (no_ok _ h0 h1 _).mono ?_; rintro e w' ⟨rfl, rfl⟩)
  go_loopw [7, 1, 2] (fun o b e wr => ∃ O X en : Int, o = .int .u64 O ∧ b = .int .u64 X ∧ e = .int .u64 en ∧ Hid (PowInv m.toNat a.toNat x.toNat O X en) ∧ ∃ n, wr = w.drewN n) (fun _ _ e _ => (intOf e).toNat)
  case atStart => exact ⟨1, a % m, x, rfl, rfl, rfl, I0, 0, rfl⟩
  case round =>
    obtain ⟨O, X, en, rfl, rfl, rfl, HI, n, rfl⟩ := hrel
    have j1 := HI.out.o0
    have j2 := HI.out.x0
    have j3 := HI.out.e0
    have j4 := HI.out.e1
    have ea := and_one_u64 en j3 j4
    by_cases hp : 0 < en
    · by_cases ho : en % 2 = 1
      · have HN := Lib.hid (HI.out.one hp ho)
        go_wp2_with (go_at_call 84; refine (mMul _ _ _ h0 h1 (by omega) (by omega) _).mono ?_; rintro e w' ⟨rfl, n', rfl⟩)
        go_roundw
        case rel => exact ⟨_, _, _, rfl, rfl, rfl, HN, _, rfl⟩
        case measure => simp [intOf]; omega
      · have ho' : en % 2 = 0 := by omega
        have HN := Lib.hid (HI.out.zero hp ho')
        clear ho
        go_wp2_with (go_at_call 84; refine (mMul _ _ _ h0 h1 (by omega) (by omega) _).mono ?_; rintro e w' ⟨rfl, n', rfl⟩)
        go_roundw
        case rel => exact ⟨_, _, _, rfl, rfl, rfl, HN, _, rfl⟩
        case measure => simp [intOf]; omega
    · have HD := Lib.hid (HI.out.done (by omega))
      go_wp2_with (fail)
      go_ret
      exact ⟨ret_u64 HD.out, _, rfl⟩

end Go.Proofs.YtallfmiikjmgaaaDoor
/- Walks: package edwards: what is reckoned with numbers; whether a pair is a point. -/
namespace Go.Proofs.YtallfmiikjmgaaaDoor
open Go.RowKit

abbrev edV (X Y : Int) : Value := .agg #[.int .u64 X, .int .u64 Y]

theorem RAdd (a b : Int) (ha : 0 ≤ a) (hb : 0 ≤ b) (w : World) :
    Calls Tryd.prog 52 #[.int .u64 288230376287764481, .int .u64 a, .int .u64 b] w fun e w' => e = .returned (.int .u64 ((Obol.addR a.toNat b.toNat : Nat) : Int)) ∧ ∃ n, w' = w.drewN n :=
  by rw [Obol.addR_eq]; exact mAdd _ a b (by omega) (by omega) ha hb w
theorem RSub (a b : Int) (ha : 0 ≤ a) (hb : 0 ≤ b) (w : World) :
    Calls Tryd.prog 83 #[.int .u64 288230376287764481, .int .u64 a, .int .u64 b] w fun e w' => e = .returned (.int .u64 ((Obol.subR a.toNat b.toNat : Nat) : Int)) ∧ ∃ n, w' = w.drewN n :=
  by rw [Obol.subR_eq]; exact mSub _ a b (by omega) (by omega) ha hb w
theorem RMul (a b : Int) (ha : 0 ≤ a) (hb : 0 ≤ b) (w : World) :
    Calls Tryd.prog 84 #[.int .u64 288230376287764481, .int .u64 a, .int .u64 b] w fun e w' => e = .returned (.int .u64 ((Obol.mulR a.toNat b.toNat : Nat) : Int)) ∧ ∃ n, w' = w.drewN n :=
  by rw [Obol.mulR_eq]; exact mMul _ a b (by omega) (by omega) ha hb w

theorem eMul (a b : Int) (ha : 0 ≤ a) (hb : 0 ≤ b) (w : World) :
    Calls Tryd.prog 57 #[.int .u64 a, .int .u64 b] w fun e w' => e = .returned (.int .u64 ((Obol.mulR a.toNat b.toNat : Nat) : Int)) ∧ ∃ n, w' = w.drewN n := by
  go_enter Tryd.func57, Tryd.ntmps57
  go_wp2_with (go_at_call 84; refine (RMul _ _ ha hb _).mono ?_; rintro e w' ⟨rfl, n, rfl⟩)
  go_ret
  exact ⟨rfl, _, rfl⟩

theorem litR : (288230376287764481 : Int).toNat = Obol.R := by decide +kernel
theorem litR2 : (288230376287764479 : Int).toNat = Obol.R - 2 := by decide +kernel
theorem RPow2 (b : Int) (hb : 0 ≤ b) (w : World) :
    Calls Tryd.prog 56 #[.int .u64 288230376287764481, .int .u64 b, .int .u64 288230376287764479] w fun e w' => e = .returned (.int .u64 ((Obol.invR b.toNat : Nat) : Int)) ∧ ∃ n, w' = w.drewN n := by
  have h := mPow 288230376287764481 b 288230376287764479 (by omega) (by omega) hb (by omega) (by omega) w
  rw [litR, litR2] at h
  rw [Obol.powM, ← Obol.invR_eq] at h
  exact h

theorem isN_far1 {x y : Nat} (h : 288230376287764481 ≤ x) : Obol.isN (x, y) = false := by
  unfold Obol.isN
  rw [decide_eq_false (show ¬ x < Obol.R by rw [Obol.R_def]; omega)]
  rfl
theorem isN_far2 {x y : Nat} (h : 288230376287764481 ≤ y) : Obol.isN (x, y) = false := by
  unfold Obol.isN
  rw [decide_eq_false (show ¬ y < Obol.R by rw [Obol.R_def]; omega), Bool.and_false, Bool.false_and]
theorem isN_near {x y : Nat} (h1 : x < 288230376287764481) (h2 : y < 288230376287764481) :
    Obol.isN (x, y) = (((Obol.subR (Obol.mulR y y) (Obol.mulR x x) : Nat) : Int) == ((Obol.addR 1 (Obol.mulR 439 (Obol.mulR (Obol.mulR x x) (Obol.mulR y y))) : Nat) : Int)) := by
  unfold Obol.isN
  rw [decide_eq_true (show x < Obol.R by rw [Obol.R_def]; omega), decide_eq_true (show y < Obol.R by rw [Obol.R_def]; omega), Bool.true_and, Bool.true_and, Bool.eq_iff_iff, decide_eq_true_eq, beq_iff_eq, Int.ofNat_inj]

theorem eIs (X Y : Int) (hX : 0 ≤ X) (hY : 0 ≤ Y) (w : World) :
    Calls Tryd.prog 81 #[edV X Y] w fun e w' => e = .returned (.bool (Obol.isN (X.toNat, Y.toNat))) ∧ Below w.heap.size w w' := by
  by_cases h1 : (288230376287764481 : Int) ≤ X
  · have hr := Lib.hid (isN_far1 (x := X.toNat) (y := Y.toNat) (by omega))
    go_enter Tryd.func81, Tryd.ntmps81
    go_wp2_with fail
    go_ret
    exact ⟨by rw [hr.out]; rfl, by repeat (first | exact Below.refl _ _ | assumption | apply bDrewN | apply bDrew | apply bAlloc | refine bSet ?_ (by omega) | refine bThen ?_ (by assumption) (by simp <;> omega))⟩
  · by_cases h2 : (288230376287764481 : Int) ≤ Y
    · have hr := Lib.hid (isN_far2 (x := X.toNat) (y := Y.toNat) (by omega))
      go_enter Tryd.func81, Tryd.ntmps81
      go_wp2_with fail
      go_ret
      exact ⟨by rw [hr.out]; rfl, by repeat (first | exact Below.refl _ _ | assumption | apply bDrewN | apply bDrew | apply bAlloc | refine bSet ?_ (by omega) | refine bThen ?_ (by assumption) (by simp <;> omega))⟩
    · have hr := Lib.hid (isN_near (x := X.toNat) (y := Y.toNat) (by omega) (by omega))
      go_enter Tryd.func81, Tryd.ntmps81
      go_wp2_with fail
      go_quiet ((go_at_call 57; exact Calls.quiet_of (eMul _ _ (by omega) (by omega) _)))
      go_wp2_with (first | (go_at_call 57; refine (eMul _ _ (by omega) (by omega) _).mono ?_; rintro e w' ⟨rfl, n, rfl⟩) | (go_at_call 52; refine (RAdd _ _ (by omega) (by omega) _).mono ?_; rintro e w' ⟨rfl, n, rfl⟩) | (go_at_call 83; refine (RSub _ _ (by omega) (by omega) _).mono ?_; rintro e w' ⟨rfl, n, rfl⟩))
      go_ret
      exact ⟨by rw [hr.out]; rfl, by repeat (first | exact Below.refl _ _ | assumption | apply bDrewN | apply bDrew | apply bAlloc | refine bSet ?_ (by omega) | refine bThen ?_ (by assumption) (by simp <;> omega))⟩

/-- A result that lies in a new variable. -/
theorem eZero (w : World) :
    Calls Tryd.prog 82 #[] w fun e w' => e = .returned (edV 0 1) ∧ Below w.heap.size w w' := by
  go_enter Tryd.func82, Tryd.ntmps82
  go_wp2_with fail
  refine bodyPost_ret (v := edV 0 1) (by simp [results, Tryd.results82, go_sem]) rfl ⟨rfl, ?_⟩
  repeat (first | exact Below.refl _ _ | apply bDrewN | apply bAlloc)

theorem eSure (X Y : Int) (hX : 0 ≤ X) (hY : 0 ≤ Y) (w : World) :
    Calls Tryd.prog 54 #[edV X Y] w fun e w' => e = .returned (edV ((Obol.sureN (X.toNat, Y.toNat)).1 : Nat) ((Obol.sureN (X.toNat, Y.toNat)).2 : Nat)) ∧ Below w.heap.size w w' := by
  by_cases hi : Obol.isN (X.toNat, Y.toNat) = true
  · have hI := Lib.hid hi
    have hR : Hid (Ending.returned (edV X Y) = .returned (edV ((Obol.sureN (X.toNat, Y.toNat)).1 : Nat) ((Obol.sureN (X.toNat, Y.toNat)).2 : Nat))) := by
      show _ = _
      rw [Obol.sureN, if_pos hi, Int.toNat_of_nonneg hX, Int.toNat_of_nonneg hY]
    clear hi
    go_enter Tryd.func54, Tryd.ntmps54
    go_wp2_with (go_at_call 81; refine (eIs _ _ (by omega) (by omega) _).mono ?_; rintro e w1 ⟨rfl, hb⟩; rw [hI.out]; obtain ⟨hc, hf⟩ := bcell hb; have hz := hb.size; (try simp at hz))
    refine bodyPost_ret (v := edV X Y) (by simp [results, Tryd.results54, go_sem, hc]) rfl ⟨hR.out, ?_⟩
    repeat (first | exact Below.refl _ _ | assumption | apply bDrewN | apply bDrew | apply bAlloc | refine bSet ?_ (by omega) | refine bThen ?_ (by assumption) (by simp <;> omega))
  · have hI := Lib.hid (Bool.eq_false_iff.2 hi)
    have hR : Hid (Ending.returned (edV 0 1) = .returned (edV ((Obol.sureN (X.toNat, Y.toNat)).1 : Nat) ((Obol.sureN (X.toNat, Y.toNat)).2 : Nat))) := by
      show _ = _
      rw [Obol.sureN, if_neg hi]
      rfl
    clear hi
    go_enter Tryd.func54, Tryd.ntmps54
    go_wp2_with (first | (go_at_call 81; refine (eIs _ _ (by omega) (by omega) _).mono ?_; rintro e w1 ⟨rfl, hb⟩; rw [hI.out]; obtain ⟨hc, hf⟩ := bcell hb; have hz := hb.size; (try simp at hz)) | (go_at_call 82; refine (eZero _).mono ?_; rintro e w2 ⟨rfl, hb2⟩; replace hb := bThen hb hb2 hb.size; clear hb2; obtain ⟨hc2, hf2⟩ := bcell hb; have hz2 := hb.size; (try simp at hz2)))
    refine bodyPost_ret (v := edV 0 1) (by simp [results, Tryd.results54, go_sem, hc2]) rfl ⟨hR.out, ?_⟩
    repeat (first | exact Below.refl _ _ | assumption | apply bDrewN | apply bDrew | apply bAlloc | refine bSet ?_ (by omega) | refine bThen ?_ (by assumption) (by simp <;> omega))

end Go.Proofs.YtallfmiikjmgaaaDoor
/- Walks: package edwards: sums of whatever, opposites. -/
namespace Go.Proofs.YtallfmiikjmgaaaDoor
open Go.RowKit

abbrev scV (X Y Z : Int) : Value := .agg #[.int .u64 X, .int .u64 Y, .int .u64 Z]

theorem eTogether (X Y Z X' Y' Z' : Int) (hX : 0 ≤ X) (hY : 0 ≤ Y) (hZ : 0 ≤ Z) (hX' : 0 ≤ X') (hY' : 0 ≤ Y') (hZ' : 0 ≤ Z') (w : World) :
    Calls Tryd.prog 55 #[scV X Y Z, scV X' Y' Z'] w fun e w' =>
      e = .returned (scV (Obol.togN (X.toNat, Y.toNat, Z.toNat) (X'.toNat, Y'.toNat, Z'.toNat)).1 (Obol.togN (X.toNat, Y.toNat, Z.toNat) (X'.toNat, Y'.toNat, Z'.toNat)).2.1 (Obol.togN (X.toNat, Y.toNat, Z.toNat) (X'.toNat, Y'.toNat, Z'.toNat)).2.2) ∧ Below w.heap.size w w' := by
  go_enter Tryd.func55, Tryd.ntmps55
  go_wp2_with (first | (go_at_call 57; refine (eMul _ _ (by omega) (by omega) _).mono ?_; rintro e w' ⟨rfl, n, rfl⟩))
  go_quiet ((first | (go_at_call 57; first | (refine Calls.quiet_of (eMul _ _ ?_ ?_ _) <;> omega) | (refine quiet_add (eMul _ _ ?_ ?_ _) <;> omega))))
  go_wp2_with (first | (go_at_call 57; refine (eMul _ _ (by omega) (by omega) _).mono ?_; rintro e w' ⟨rfl, n, rfl⟩) | (go_at_call 52; refine (RAdd _ _ (by omega) (by omega) _).mono ?_; rintro e w' ⟨rfl, n, rfl⟩) | (go_at_call 83; refine (RSub _ _ (by omega) (by omega) _).mono ?_; rintro e w' ⟨rfl, n, rfl⟩))
  go_quiet ((first | (go_at_call 57; first | (refine Calls.quiet_of (eMul _ _ ?_ ?_ _) <;> omega) | (refine quiet_add (eMul _ _ ?_ ?_ _) <;> omega)) | (go_at_call 52; first | (refine Calls.quiet_of (RAdd _ _ ?_ ?_ _) <;> omega) | (refine quiet_add (RAdd _ _ ?_ ?_ _) <;> omega))))
  go_wp2_with (first | (go_at_call 57; refine (eMul _ _ (by omega) (by omega) _).mono ?_; rintro e w' ⟨rfl, n, rfl⟩) | (go_at_call 52; refine (RAdd _ _ (by omega) (by omega) _).mono ?_; rintro e w' ⟨rfl, n, rfl⟩) | (go_at_call 83; refine (RSub _ _ (by omega) (by omega) _).mono ?_; rintro e w' ⟨rfl, n, rfl⟩))
  refine bodyPost_ret (v := scV _ _ _) (by simp [results, Tryd.results55, go_sem]; exact ⟨rfl, rfl, rfl⟩) rfl ⟨rfl, ?_⟩
  repeat (first | exact Below.refl _ _ | assumption | apply bDrewN | apply bDrew | apply bAlloc | refine bSet ?_ (by omega) | refine bThen ?_ (by assumption) (by simp <;> omega))

end Go.Proofs.YtallfmiikjmgaaaDoor
/- Walks: package edwards: multiples. -/
namespace Go.Proofs.YtallfmiikjmgaaaDoor
open Go.RowKit

structure MulI (A : Obol.Pt) (K : Nat) (ox oy oz bx by' bz en : Int) : Prop where
  o1 : 0 ≤ ox
  o2 : 0 ≤ oy
  o3 : 0 ≤ oz
  b1 : 0 ≤ bx
  b2 : 0 ≤ by'
  b3 : 0 ≤ bz
  e0 : 0 ≤ en
  e1 : en ≤ 18446744073709551615
  inv : Obol.MulInv A K (ox.toNat, oy.toNat, oz.toNat) (bx.toNat, by'.toNat, bz.toNat) en.toNat

abbrev t1 (t : Nat × Nat × Nat) : Int := (t.1 : Nat)
abbrev t2 (t : Nat × Nat × Nat) : Int := (t.2.1 : Nat)
abbrev t3 (t : Nat × Nat × Nat) : Int := (t.2.2 : Nat)

theorem MulI.one {A : Obol.Pt} {K : Nat} {ox oy oz bx by' bz en : Int} (h : MulI A K ox oy oz bx by' bz en) (ho : en % 2 = 1) :
    MulI A K ((Obol.togN (ox.toNat, oy.toNat, oz.toNat) (bx.toNat, by'.toNat, bz.toNat)).1 : Nat) ((Obol.togN (ox.toNat, oy.toNat, oz.toNat) (bx.toNat, by'.toNat, bz.toNat)).2.1 : Nat)
      ((Obol.togN (ox.toNat, oy.toNat, oz.toNat) (bx.toNat, by'.toNat, bz.toNat)).2.2 : Nat) ((Obol.togN (bx.toNat, by'.toNat, bz.toNat) (bx.toNat, by'.toNat, bz.toNat)).1 : Nat)
      ((Obol.togN (bx.toNat, by'.toNat, bz.toNat) (bx.toNat, by'.toNat, bz.toNat)).2.1 : Nat) ((Obol.togN (bx.toNat, by'.toNat, bz.toNat) (bx.toNat, by'.toNat, bz.toNat)).2.2 : Nat) (en / 2) := by
  have h0 := h.e0
  have h1 := h.e1
  refine ⟨by omega, by omega, by omega, by omega, by omega, by omega, by omega, by omega, ?_⟩
  have := h.inv.one (by omega)
  rw [Int.toNat_natCast, Int.toNat_natCast, Int.toNat_natCast, Int.toNat_natCast, Int.toNat_natCast, Int.toNat_natCast, show (en / 2).toNat = en.toNat / 2 by omega]
  exact this
theorem MulI.zero {A : Obol.Pt} {K : Nat} {ox oy oz bx by' bz en : Int} (h : MulI A K ox oy oz bx by' bz en) (ho : en % 2 = 0) :
    MulI A K ox oy oz ((Obol.togN (bx.toNat, by'.toNat, bz.toNat) (bx.toNat, by'.toNat, bz.toNat)).1 : Nat)
      ((Obol.togN (bx.toNat, by'.toNat, bz.toNat) (bx.toNat, by'.toNat, bz.toNat)).2.1 : Nat) ((Obol.togN (bx.toNat, by'.toNat, bz.toNat) (bx.toNat, by'.toNat, bz.toNat)).2.2 : Nat) (en / 2) := by
  have h0 := h.e0
  have h1 := h.e1
  refine ⟨h.o1, h.o2, h.o3, by omega, by omega, by omega, by omega, by omega, ?_⟩
  have := h.inv.zero (by omega)
  rw [Int.toNat_natCast, Int.toNat_natCast, Int.toNat_natCast, show (en / 2).toNat = en.toNat / 2 by omega]
  exact this

set_option maxHeartbeats 2000000 in
theorem eMulK (X Y k : Int) (hX : 0 ≤ X) (hY : 0 ≤ Y) (hk : 0 ≤ k) (hk1 : k ≤ 18446744073709551615) (w : World) :
    Calls Tryd.prog 33 #[edV X Y, .int .u64 k] w fun e w' =>
      e = .returned (edV ((Obol.smulN (X.toNat, Y.toNat) k.toNat).1 : Nat) ((Obol.smulN (X.toNat, Y.toNat) k.toNat).2 : Nat)) ∧ Below w.heap.size w w' := by
  go_enter Tryd.func33, Tryd.ntmps33
  go_wp2_with fail
  refine (eSure _ _ (by omega) (by omega) _).mono ?_
  rintro e w1 ⟨rfl, hb⟩
  obtain ⟨hc, hf⟩ := bcell hb; have hz := hb.size; (try simp at hz)
  have R0 : Row w1 w.heap.size #[.int .u64 X, .int .u64 Y] 29 := ((Row.new _ _ _).alloc _).below hb (by simp; omega)
  have R1 : Row w1 (w.heap.size + 1) #[.int .u64 0, .int .u64 0] 29 := by have h := Row.new (w.alloc (.cells #[.int .u64 X, .int .u64 Y] 29)) #[.int .u64 0, .int .u64 0] 29; rw [World.size_alloc] at h; exact h.below hb (by simp)
  have hb1 : Below w.heap.size w w1 := by repeat (first | exact Below.refl _ _ | assumption | apply bDrewN | apply bDrew | apply bAlloc | refine bSet ?_ (by omega) | refine bThen ?_ (by assumption) (by simp <;> omega))
  have g0 := R0.cell 0 rfl
  have g1 := R0.cell 1 rfl
  have f0 := R0.free 0
  have f1 := R0.free 1
  clear hc hf hb
  go_upto_region 2 with (fail)
  obtain ⟨sx, hsx⟩ : ∃ z : Int, z = ((Obol.sureN (X.toNat, Y.toNat)).1 : Nat) := ⟨_, rfl⟩
  obtain ⟨sy, hsy⟩ : ∃ z : Int, z = ((Obol.sureN (X.toNat, Y.toNat)).2 : Nat) := ⟨_, rfl⟩
  rw [← hsx, ← hsy]
  replace hsx := Lib.hid hsx
  replace hsy := Lib.hid hsy
  replace R0 := R0.set2 (v0 := .int .u64 sx) (v1 := .int .u64 sy)
  replace R1 := (R1.other (v := .int .u64 sx) (c := w.heap.size) (o := 0) (by omega)).other (v := .int .u64 sy) (c := w.heap.size) (o := 1) (by omega)
  replace hb1 : Below w.heap.size w ((w1.setCell ⟨w.heap.size, 0, none⟩ (.int .u64 sx)).setCell ⟨w.heap.size, 1, none⟩ (.int .u64 sy)) := bSet (bSet hb1 (by omega)) (by omega)
  clear hz g0 g1 f0 f1
  generalize hw2 : (w1.setCell ⟨w.heap.size, 0, none⟩ (.int .u64 sx)).setCell ⟨w.heap.size, 1, none⟩ (.int .u64 sy) = w2
  rw [hw2] at R0 R1 hb1
  clear hw2
  have g0 := R0.cell 0 rfl
  have g1 := R0.cell 1 rfl
  have hz := R1.lt
  have hz0 := R0.lt
  go_cut [5, 6] (fun v5 v6 wc => ∃ a b : Nat, v5 = .pointer (some ⟨a, 0, none⟩) ∧ v6 = .pointer (some ⟨b, 0, none⟩) ∧ a ≠ b ∧ w.heap.size + 1 < a ∧ w.heap.size + 1 < b ∧ Below w.heap.size w wc ∧
    Row wc a #[.int .u64 0, .int .u64 1, .int .u64 1] 82 ∧ Row wc b #[.int .u64 sx, .int .u64 sy, .int .u64 1] 82 ∧ Row wc (w.heap.size + 1) #[.int .u64 0, .int .u64 0] 29)
  case first =>
    go_region
    all_goals (go_wp2_with fail; go_meet)
    · exact ⟨_, _, rfl, rfl, by omega, by omega, by omega, bDrew (bAlloc (bAlloc hb1 _) _), ((Row.new _ _ _).alloc _).drew, (Row.new1 _ _ _ _).drew, ((R1.alloc _).alloc _).drew⟩
    · exact ⟨_, _, rfl, rfl, by omega, by omega, by omega, bDrew (bAlloc (bAlloc hb1 _) _), (Row.new1 _ _ _ _).drew, ((Row.new _ _ _).alloc _).drew, ((R1.alloc _).alloc _).drew⟩
  case rest =>
    obtain ⟨a, b, rfl, rfl, hab, ha, hbb, hbc, Ra, Rb, Rr⟩ := hcut
    have I0 : Hid (MulI (Obol.Pnt.of (X.toNat, Y.toNat)) k.toNat 0 1 1 sx sy 1 k) := by
      have e1 := hsx.out
      have e2 := hsy.out
      have hn := Obol.sure_n (X.toNat, Y.toNat)
      rw [hn] at e1 e2
      refine ⟨by omega, by omega, by omega, by omega, by omega, by omega, hk, hk1, ?_⟩
      rw [e1, e2, Int.toNat_natCast, Int.toNat_natCast]
      exact Obol.MulInv.start _ _
    go_wp2_with fail
    go_loopw [1] (fun e wr => ∃ ox oy oz bx by' bz en : Int, e = .int .u64 en ∧ Row wr a #[.int .u64 ox, .int .u64 oy, .int .u64 oz] 82 ∧ Row wr b #[.int .u64 bx, .int .u64 by', .int .u64 bz] 82 ∧
      Row wr (w.heap.size + 1) #[.int .u64 0, .int .u64 0] 29 ∧ Below w.heap.size w wr ∧ Hid (MulI (Obol.Pnt.of (X.toNat, Y.toNat)) k.toNat ox oy oz bx by' bz en)) (fun e _ => (intOf e).toNat)
    case atStart => exact ⟨0, 1, 1, sx, sy, 1, k, rfl, Ra, Rb, Rr, hbc, I0⟩
    case round =>
      have hba : b ≠ a := fun e => hab e.symm
      have hra : w.heap.size + 1 ≠ a := by omega
      have hrb : w.heap.size + 1 ≠ b := by omega
      clear Ra Rb Rr hbc I0 R0 R1 hb1 g0 g1 hz hz0
      obtain ⟨ox, oy, oz, bx, by', bz, en, rfl, Ra, Rb, Rr, hbc, HI⟩ := hrel
      have i1 := HI.out.o1
      have i2 := HI.out.o2
      have i3 := HI.out.o3
      have i4 := HI.out.b1
      have i5 := HI.out.b2
      have i6 := HI.out.b3
      have j3 := HI.out.e0
      have j4 := HI.out.e1
      have ea := and_one_u64 en j3 j4
      have a0 := Ra.cell 0 rfl
      have a1 := Ra.cell 1 rfl
      have a2 := Ra.cell 2 rfl
      have b0 := Rb.cell 0 rfl
      have b1 := Rb.cell 1 rfl
      have b2 := Rb.cell 2 rfl
      by_cases hp : 0 < en
      · by_cases ho : en % 2 = 1
        · have HN := Lib.hid (HI.out.one ho)
          go_wp2_with fail
          refine (eTogether _ _ _ _ _ _ i1 i2 i3 i4 i5 i6 _).mono ?_
          rintro e w3 ⟨rfl, hb3⟩
          replace hbc := bThen hbc hb3 hbc.size
          replace Rb := Rb.below hb3 Rb.lt
          replace Rr := Rr.below hb3 Rr.lt
          replace Ra := Ra.below hb3 Ra.lt
          clear a0 a1 a2 b0 b1 b2 hb3
          have a0 := Ra.cell 0 rfl
          have a1 := Ra.cell 1 rfl
          have a2 := Ra.cell 2 rfl
          have b0 := Rb.cell 0 rfl
          have b1 := Rb.cell 1 rfl
          have b2 := Rb.cell 2 rfl
          have f0 := Ra.free 0
          have f1 := Ra.free 1
          have f2 := Ra.free 2
          go_wp2_with fail
          refine (eTogether _ _ _ _ _ _ i4 i5 i6 i4 i5 i6 _).mono ?_
          rintro e w4 ⟨rfl, hb4⟩
          replace hbc := bThen (bSet (bSet (bSet hbc (b := a) (by omega)) (b := a) (by omega)) (b := a) (by omega)) hb4 (bSet (bSet (bSet hbc (b := a) (by omega)) (b := a) (by omega)) (b := a) (by omega)).size
          replace Rb := (((Rb.other hba).other hba).other hba).below hb4 (((Rb.other hba).other hba).other hba).lt
          replace Rr := (((Rr.other hra).other hra).other hra).below hb4 (((Rr.other hra).other hra).other hra).lt
          replace Ra := Ra.set3.below hb4 Ra.set3.lt
          clear a0 a1 a2 b0 b1 b2 hb4 f0 f1 f2
          have a0 := Ra.cell 0 rfl
          have a1 := Ra.cell 1 rfl
          have a2 := Ra.cell 2 rfl
          have b0 := Rb.cell 0 rfl
          have b1 := Rb.cell 1 rfl
          have b2 := Rb.cell 2 rfl
          have f0 := Rb.free 0
          have f1 := Rb.free 1
          have f2 := Rb.free 2
          go_wp2_with fail
          go_roundw
          case rel => exact ⟨_, _, _, _, _, _, _, rfl, ((Ra.other hab).other hab).other hab, Rb.set3, ((Rr.other hrb).other hrb).other hrb, bSet (bSet (bSet hbc (by omega)) (by omega)) (by omega), HN⟩
          case measure => simp [intOf]; omega
        · have ho' : en % 2 = 0 := by omega
          have HN := Lib.hid (HI.out.zero ho')
          clear ho
          go_wp2_with fail
          refine (eTogether _ _ _ _ _ _ i4 i5 i6 i4 i5 i6 _).mono ?_
          rintro e w4 ⟨rfl, hb4⟩
          replace hbc := bThen hbc hb4 hbc.size
          replace Rb := Rb.below hb4 Rb.lt
          replace Rr := Rr.below hb4 Rr.lt
          replace Ra := Ra.below hb4 Ra.lt
          clear a0 a1 a2 b0 b1 b2 hb4
          have a0 := Ra.cell 0 rfl
          have a1 := Ra.cell 1 rfl
          have a2 := Ra.cell 2 rfl
          have b0 := Rb.cell 0 rfl
          have b1 := Rb.cell 1 rfl
          have b2 := Rb.cell 2 rfl
          have f0 := Rb.free 0
          have f1 := Rb.free 1
          have f2 := Rb.free 2
          go_wp2_with fail
          go_roundw
          case rel => exact ⟨_, _, _, _, _, _, _, rfl, ((Ra.other hab).other hab).other hab, Rb.set3, ((Rr.other hrb).other hrb).other hrb, bSet (bSet (bSet hbc (by omega)) (by omega)) (by omega), HN⟩
          case measure => simp [intOf]; omega
      · have HD : Hid ((Obol.mulR ox.toNat (Obol.invR oz.toNat), Obol.mulR oy.toNat (Obol.invR oz.toNat)) = Obol.smulN (X.toNat, Y.toNat) k.toNat) := by
          have h := HI.out.inv
          rw [show en.toNat = 0 by omega] at h
          rw [Obol.smulN_eq]
          exact h.done
        have r0 := Rr.cell 0 rfl
        have r1 := Rr.cell 1 rfl
        have fr0 := Rr.free 0
        have fr1 := Rr.free 1
        go_wp2_with (go_at_call 56; refine (RPow2 _ i3 _).mono ?_; rintro e w' ⟨rfl, n, rfl⟩)
        go_region_with (go_at_call 57; refine (eMul _ _ (by omega) (by omega) _).mono ?_; rintro e w' ⟨rfl, n, rfl⟩)
        all_goals go_wp2_with fail
        all_goals
          refine bodyPost_ret (v := edV (Obol.mulR ox.toNat (Obol.invR oz.toNat) : Nat) (Obol.mulR oy.toNat (Obol.invR oz.toNat) : Nat)) (by simp [results, Tryd.results33, go_sem, r0, r1]) rfl ⟨by rw [← HD.out], ?_⟩
          repeat (first | exact Below.refl _ _ | assumption | apply bDrewN | apply bDrew | apply bAlloc | refine bSet ?_ (by omega) | refine bThen ?_ (by assumption) (by simp <;> omega))

end Go.Proofs.YtallfmiikjmgaaaDoor
/- Walks: the reference of layer 1: sums, products, powers bit by bit. -/
namespace Go.Proofs.YtallfmiikjmgaaaDoor
open Go.RowKit

theorem end_add1 (m x y : Int) (h0 : 1 ≤ m) (h1 : m ≤ 4611686018427387904) (ha : 0 ≤ x) (hb : 0 ≤ y) (hx : x < m) (hy : y < m) :
    (if m - y ≤ x then x - (m - y) else x + y) = ((Obol.addM m.toNat x.toNat y.toNat : Nat) : Int) := by
  have := Obol.add_mod_by (m := m.toNat) (a := x.toNat) (b := y.toNat) (by omega) (by omega)
  rw [Obol.addM, ← this]
  split
  · rw [if_pos (by omega)]; omega
  · rw [if_neg (by omega)]; omega
theorem addM_mod (m a b : Nat) : Obol.addM m (a % m) (b % m) = Obol.addM m a b := by unfold Obol.addM; rw [← Nat.add_mod]
theorem toNat_mod {m a : Int} (ha : 0 ≤ a) (h0 : 1 ≤ m) : (a % m).toNat = a.toNat % m.toNat := Int.toNat_emod ha (by omega)

theorem r1Add (m a b : Int) (h0 : 1 ≤ m) (h1 : m ≤ 4611686018427387904) (ha : 0 ≤ a) (hb : 0 ≤ b) (w : World) :
    Calls Tryd.prog 58 #[.int .u64 m, .int .u64 a, .int .u64 b] w fun e w' => e = .returned (.int .u64 ((Obol.addM m.toNat a.toNat b.toNat : Nat) : Int)) ∧ w' = w := by
  have h2 := Int.emod_nonneg a (show m ≠ 0 by omega)
  have h3 := Int.emod_lt_of_pos a (show 0 < m by omega)
  have h4 := Int.emod_nonneg b (show m ≠ 0 by omega)
  have h5 := Int.emod_lt_of_pos b (show 0 < m by omega)
  have he := end_add1 m (a % m) (b % m) h0 h1 h2 h4 h3 h5
  rw [toNat_mod ha h0, toNat_mod hb h0, addM_mod] at he
  have e1 : a.tmod m = a % m := Int.tmod_eq_emod_of_nonneg ha
  have e2 : b.tmod m = b % m := Int.tmod_eq_emod_of_nonneg hb
  obtain ⟨x, hx⟩ : ∃ x : Int, x = a % m := ⟨_, rfl⟩
  obtain ⟨y, hy⟩ : ∃ y : Int, y = b % m := ⟨_, rfl⟩
  rw [← hx, ← hy] at he
  rw [← hx] at e1 h2 h3
  rw [← hy] at e2 h4 h5
  replace hx := hx.symm
  replace hy := hy.symm
  by_cases hc : m - y ≤ x
  · rw [if_pos hc] at he
    have HE := Lib.hid he
    clear he
    go_enter Tryd.func58, Tryd.ntmps58
    go_wp2
    go_ret
    exact ⟨ret_u64 HE.out, rfl⟩
  · rw [if_neg hc] at he
    have HE := Lib.hid he
    clear he
    go_enter Tryd.func58, Tryd.ntmps58
    go_wp2
    go_ret
    exact ⟨ret_u64 HE.out, rfl⟩

/-- What is known ahead of a product's next bit. -/
structure R1I (m x y : Nat) (O i : Int) : Prop where
  i0 : 0 ≤ i
  i1 : i ≤ 64
  o0 : 0 ≤ O
  o1 : O < m
  eq : O.toNat = y / 2 ^ (64 - i.toNat) * x % m

/-- The next bit of a number, from the highest on. -/
def bitI (y i : Int) : Int := y / 2 ^ (63 - i).toNat % 2
theorem bitI_01 (y i : Int) : bitI y i = 0 ∨ bitI y i = 1 := by unfold bitI; omega
theorem bitI_toNat (y i : Int) (hy : 0 ≤ y) (h0 : 0 ≤ i) (h1 : i < 64) : bitI y i = ((y.toNat / 2 ^ (63 - i.toNat) % 2 : Nat) : Int) := by
  unfold bitI
  rw [show (63 - i).toNat = 63 - i.toNat by omega, Int.natCast_emod, Int.natCast_ediv, Int.toNat_of_nonneg hy]
  rfl
theorem bitI_bits (y i : Int) (hy : 0 ≤ y) (hy1 : y ≤ 18446744073709551615) : bits .and .u64 (y / 2 ^ (63 - i).toNat) 1 = bitI y i := by
  have h2 : (1 : Int) ≤ 2 ^ (63 - i).toNat := Int.add_one_le_of_lt (Int.pow_pos (by omega))
  have h0 : 0 ≤ y / 2 ^ (63 - i).toNat := Int.ediv_nonneg hy (by omega)
  have h1 : y / 2 ^ (63 - i).toNat ≤ y := Int.ediv_le_self _ hy
  rw [and_one_u64 _ h0 (by omega)]
  rfl

def dblI (m O : Int) : Int := if m - O ≤ O then O - (m - O) else O + O
def stepI (m x O B : Int) : Int := if B = 1 then (if m - x ≤ dblI m O then dblI m O - (m - x) else dblI m O + x) else dblI m O

theorem R1I.step {m x y O i : Int} (h : R1I m.toNat x.toNat y.toNat O i) (hm : 1 ≤ m) (hx : 0 ≤ x) (hxm : x < m) (hy : 0 ≤ y) (hi : i < 64) {O' : Int} (he : O' = stepI m x O (bitI y i)) :
    R1I m.toNat x.toNat y.toNat O' (i + 1) := by
  have i0 := h.i0
  have o0 := h.o0
  have o1 := h.o1
  have hd : dblI m O = (((O.toNat + O.toNat) % m.toNat : Nat) : Int) := by
    have := Obol.add_mod_by (m := m.toNat) (a := O.toNat) (b := O.toNat) (by omega) (by omega)
    rw [← this]
    unfold dblI
    split
    · rw [if_pos (by omega)]; omega
    · rw [if_neg (by omega)]; omega
  have hdl : (O.toNat + O.toNat) % m.toNat < m.toNat := Nat.mod_lt _ (by omega)
  have hD : O' = (((((O.toNat + O.toNat) % m.toNat) + (if y.toNat / 2 ^ (63 - i.toNat) % 2 = 1 then x.toNat % m.toNat else 0)) % m.toNat : Nat) : Int) := by
    have hb := bitI_toNat y i hy i0 hi
    rw [Nat.mod_eq_of_lt (show x.toNat < m.toNat by omega)]
    have := Obol.add_mod_by (m := m.toNat) (a := (O.toNat + O.toNat) % m.toNat) (b := x.toNat) hdl (by omega)
    rw [he, stepI, hd]
    generalize (O.toNat + O.toNat) % m.toNat = D at *
    by_cases hB : bitI y i = 1
    · rw [if_pos hB, if_pos (show y.toNat / 2 ^ (63 - i.toNat) % 2 = 1 by omega), ← this]
      split
      · rw [if_pos (by omega)]; omega
      · rw [if_neg (by omega)]; omega
    · rw [if_neg hB, if_neg (show ¬ y.toNat / 2 ^ (63 - i.toNat) % 2 = 1 by omega), Nat.add_zero, Nat.mod_eq_of_lt hdl]
  have hs := Obol.mul_step m.toNat x.toNat y.toNat i.toNat (by omega)
  rw [← h.eq] at hs
  rw [hs] at hD
  have hl := Nat.mod_lt (y.toNat / 2 ^ (64 - (i.toNat + 1)) * x.toNat) (show m.toNat > 0 by omega)
  refine ⟨by omega, by omega, by omega, by omega, ?_⟩
  rw [show (i + 1).toNat = i.toNat + 1 by omega, hD, Int.toNat_natCast]

theorem R1I.done {m a b O i : Int} (h : R1I m.toNat (a % m).toNat (b % m).toNat O i) (hm : 1 ≤ m) (ha : 0 ≤ a) (hb : 0 ≤ b) (hi : ¬ i < 64) : O = ((Obol.mulM m.toNat a.toNat b.toNat : Nat) : Int) := by
  have h1 := h.eq
  have i1 := h.i1
  have o0 := h.o0
  rw [show i.toNat = 64 by omega, Nat.sub_self, Nat.pow_zero, Nat.div_one, toNat_mod ha hm, toNat_mod hb hm, Nat.mul_comm, ← Nat.mul_mod] at h1
  rw [Obol.mulM]
  omega

theorem r1Mul (m a b : Int) (h0 : 1 ≤ m) (h1 : m ≤ 4611686018427387904) (ha : 0 ≤ a) (hb : 0 ≤ b) (w : World) :
    Calls Tryd.prog 85 #[.int .u64 m, .int .u64 a, .int .u64 b] w fun e w' => e = .returned (.int .u64 ((Obol.mulM m.toNat a.toNat b.toNat : Nat) : Int)) ∧ w' = w := by
  have h2 := Int.emod_nonneg a (show m ≠ 0 by omega)
  have h3 := Int.emod_lt_of_pos a (show 0 < m by omega)
  have h4 := Int.emod_nonneg b (show m ≠ 0 by omega)
  have h5 := Int.emod_lt_of_pos b (show 0 < m by omega)
  have e1 : a.tmod m = a % m := Int.tmod_eq_emod_of_nonneg ha
  have e2 : b.tmod m = b % m := Int.tmod_eq_emod_of_nonneg hb
  obtain ⟨x, hx⟩ : ∃ x : Int, x = a % m := ⟨_, rfl⟩
  obtain ⟨y, hy⟩ : ∃ y : Int, y = b % m := ⟨_, rfl⟩
  rw [← hx] at e1 h2 h3
  rw [← hy] at e2 h4 h5
  replace hx := hx.symm
  replace hy := hy.symm
  have HX := Lib.hid hx
  have HY := Lib.hid hy
  have I0 : Hid (R1I m.toNat x.toNat y.toNat 0 0) := Lib.hid ⟨by omega, by omega, by omega, by omega, by
    show (0 : Int).toNat = y.toNat / 2 ^ 64 * x.toNat % m.toNat
    rw [Nat.div_eq_of_lt (by omega), Nat.zero_mul]; rfl⟩
  go_enter Tryd.func85, Tryd.ntmps85
  go_wp2
  go_loopw [9, 10] (fun o c wr => ∃ O i : Int, o = .int .u64 O ∧ c = .int .i64 i ∧ Hid (R1I m.toNat x.toNat y.toNat O i) ∧ wr = w) (fun _ c _ => (64 - intOf c).toNat)
  case atStart => exact ⟨0, 0, rfl, rfl, I0, rfl⟩
  case round =>
    obtain ⟨O, i, rfl, rfl, HI, rfl⟩ := hrel
    have i0 := HI.out.i0
    have i1 := HI.out.i1
    have j0 := HI.out.o0
    have j1 : O < m := by have := HI.out.o1; omega
    have ea := bitI_bits y i h4 (by omega)
    by_cases hi : i < 64
    · rcases bitI_01 y i with hB | hB
      all_goals
        rw [hB] at ea
        go_wp2
      all_goals
        refine ⟨⟨_, _, rfl, rfl, Lib.hid (HI.out.step h0 h2 h3 h4 hi ?_), trivial⟩, by simp [intOf]; omega⟩
        unfold stepI dblI
        repeat' split
        all_goals omega
    · have HD : Hid (O = ((Obol.mulM m.toNat a.toNat b.toNat : Nat) : Int)) := Lib.hid (by
        have h := HI.out
        rw [← HX.out, ← HY.out] at h
        exact h.done h0 ha hb hi)
      go_wp2
      go_ret
      exact ⟨ret_u64 HD.out, rfl⟩

/-- What is known ahead of a power's next bit. -/
structure R1P (m a e : Nat) (O i : Int) : Prop where
  i0 : 0 ≤ i
  i1 : i ≤ 64
  o0 : 0 ≤ O
  eq : O.toNat = a ^ (e / 2 ^ (64 - i.toNat)) % m

theorem R1P.one {m a e : Nat} {O i y : Int} (h : R1P m a e O i) (he : e = y.toNat) (hy : 0 ≤ y) (hi : i < 64) (hb : bitI y i = 1) :
    R1P m a e ((Obol.mulM m (Obol.mulM m O.toNat O.toNat) a : Nat) : Int) (i + 1) := by
  have i0 := h.i0
  refine ⟨by omega, by omega, by omega, ?_⟩
  have hs := Obol.pow_step m a e i.toNat (by omega)
  have hb' := bitI_toNat y i hy i0 hi
  rw [← h.eq, if_pos (by rw [he]; omega)] at hs
  rw [Int.toNat_natCast, show (i + 1).toNat = i.toNat + 1 by omega]
  exact hs
theorem R1P.zero {m a e : Nat} {O i y : Int} (h : R1P m a e O i) (he : e = y.toNat) (hy : 0 ≤ y) (hi : i < 64) (hb : bitI y i = 0) :
    R1P m a e ((Obol.mulM m O.toNat O.toNat : Nat) : Int) (i + 1) := by
  have i0 := h.i0
  refine ⟨by omega, by omega, by omega, ?_⟩
  have hs := Obol.pow_step m a e i.toNat (by omega)
  have hb' := bitI_toNat y i hy i0 hi
  rw [← h.eq, if_neg (by rw [he]; omega)] at hs
  rw [Int.toNat_natCast, show (i + 1).toNat = i.toNat + 1 by omega]
  exact hs

theorem r1Pow (m a e : Int) (h0 : 2 ≤ m) (h1 : m ≤ 4611686018427387904) (ha : 0 ≤ a) (he : 0 ≤ e) (he1 : e ≤ 18446744073709551615) (w : World) :
    Calls Tryd.prog 86 #[.int .u64 m, .int .u64 a, .int .u64 e] w fun r w' => r = .returned (.int .u64 ((Obol.powM m.toNat a.toNat e.toNat : Nat) : Int)) ∧ w' = w := by
  have e1 : (1 : Int).tmod m = 1 := by rw [Int.tmod_eq_emod_of_nonneg (by omega), Int.emod_eq_of_lt (by omega) (by omega)]
  have e2 : (1 : Int) % m = 1 := by rw [Int.emod_eq_of_lt (by omega) (by omega)]
  have I0 : Hid (R1P m.toNat a.toNat e.toNat 1 0) := Lib.hid ⟨by omega, by omega, by omega, by
    show 1 = a.toNat ^ (e.toNat / 2 ^ 64) % m.toNat
    rw [Nat.div_eq_of_lt (by omega), Nat.pow_zero, Nat.mod_eq_of_lt (by omega)]⟩
  go_enter Tryd.func86, Tryd.ntmps86
  go_wp2
  go_loopw [7, 8] (fun o c wr => ∃ O i : Int, o = .int .u64 O ∧ c = .int .i64 i ∧ Hid (R1P m.toNat a.toNat e.toNat O i) ∧ wr = w) (fun _ c _ => (64 - intOf c).toNat)
  case atStart => exact ⟨1, 0, rfl, rfl, I0, rfl⟩
  case round =>
    obtain ⟨O, i, rfl, rfl, HI, rfl⟩ := hrel
    have i0 := HI.out.i0
    have i1 := HI.out.i1
    have j0 := HI.out.o0
    have ea := bitI_bits e i he he1
    by_cases hi : i < 64
    · rcases bitI_01 e i with hB | hB
      · have HN := Lib.hid (HI.out.zero rfl he hi hB)
        rw [hB] at ea
        go_wp2_with (go_at_call 85; refine (r1Mul _ _ _ (by omega) (by omega) (by omega) (by omega) _).mono ?_; rintro e w' ⟨rfl, rfl⟩)
        exact ⟨⟨_, _, rfl, rfl, HN, trivial⟩, by simp [intOf]; omega⟩
      · have HN := Lib.hid (HI.out.one rfl he hi hB)
        rw [hB] at ea
        go_wp2_with (go_at_call 85; refine (r1Mul _ _ _ (by omega) (by omega) (by omega) (by omega) _).mono ?_; rintro e w' ⟨rfl, rfl⟩)
        exact ⟨⟨_, _, rfl, rfl, HN, trivial⟩, by simp [intOf]; omega⟩
    · have HD : Hid (O = ((Obol.powM m.toNat a.toNat e.toNat : Nat) : Int)) := Lib.hid (by
        have h := HI.out.eq
        rw [show i.toNat = 64 by omega, Nat.sub_self, Nat.pow_zero, Nat.div_one] at h
        rw [Obol.powM]
        omega)
      go_wp2
      go_ret
      exact ⟨ret_u64 HD.out, rfl⟩

/-! the same modulo R -/
theorem R1Add (a b : Int) (ha : 0 ≤ a) (hb : 0 ≤ b) (w : World) :
    Calls Tryd.prog 58 #[.int .u64 288230376287764481, .int .u64 a, .int .u64 b] w fun e w' => e = .returned (.int .u64 ((Obol.addR a.toNat b.toNat : Nat) : Int)) ∧ w' = w :=
  by rw [Obol.addR_eq]; exact r1Add _ a b (by omega) (by omega) ha hb w
theorem R1Mul (a b : Int) (ha : 0 ≤ a) (hb : 0 ≤ b) (w : World) :
    Calls Tryd.prog 85 #[.int .u64 288230376287764481, .int .u64 a, .int .u64 b] w fun e w' => e = .returned (.int .u64 ((Obol.mulR a.toNat b.toNat : Nat) : Int)) ∧ w' = w :=
  by rw [Obol.mulR_eq]; exact r1Mul _ a b (by omega) (by omega) ha hb w
theorem R1Pow2 (b : Int) (hb : 0 ≤ b) (w : World) :
    Calls Tryd.prog 86 #[.int .u64 288230376287764481, .int .u64 b, .int .u64 288230376287764479] w fun e w' => e = .returned (.int .u64 ((Obol.invR b.toNat : Nat) : Int)) ∧ w' = w := by
  have h := r1Pow 288230376287764481 b 288230376287764479 (by omega) (by omega) hb (by omega) (by omega) w
  rw [litR, litR2] at h
  rw [Obol.powM, ← Obol.invR_eq] at h
  exact h

end Go.Proofs.YtallfmiikjmgaaaDoor
/- Walks: the reference of layer 7: the field, points, sums, multiples. -/
namespace Go.Proofs.YtallfmiikjmgaaaDoor
open Go.RowKit

theorem addR_less (a b : Nat) : Obol.addR a (288230376287764481 - b % 288230376287764481) = Obol.subR a b := by
  rw [Obol.addR_eq, Obol.subR_eq, Obol.addQ, Obol.subQ, Obol.R_def]
  omega

theorem r7Mul (a b : Int) (ha : 0 ≤ a) (hb : 0 ≤ b) (w : World) :
    Calls Tryd.prog 59 #[.int .u64 a, .int .u64 b] w fun e w' => e = .returned (.int .u64 ((Obol.mulR a.toNat b.toNat : Nat) : Int)) ∧ ∃ n, w' = w.drewN n := by
  go_enter Tryd.func59, Tryd.ntmps59
  go_wp2_with (go_at_call 85; refine (R1Mul _ _ ha hb _).mono ?_; rintro e w' ⟨rfl, rfl⟩)
  go_ret
  exact ⟨rfl, 0, rfl⟩
theorem r7Plus (a b : Int) (ha : 0 ≤ a) (hb : 0 ≤ b) (w : World) :
    Calls Tryd.prog 36 #[.int .u64 a, .int .u64 b] w fun e w' => e = .returned (.int .u64 ((Obol.addR a.toNat b.toNat : Nat) : Int)) ∧ ∃ n, w' = w.drewN n := by
  go_enter Tryd.func36, Tryd.ntmps36
  go_wp2_with (go_at_call 58; refine (R1Add _ _ ha hb _).mono ?_; rintro e w' ⟨rfl, rfl⟩)
  go_ret
  exact ⟨rfl, 0, rfl⟩
theorem r7Less (a b : Int) (ha : 0 ≤ a) (hb : 0 ≤ b) (w : World) :
    Calls Tryd.prog 61 #[.int .u64 a, .int .u64 b] w fun e w' => e = .returned (.int .u64 ((Obol.subR a.toNat b.toNat : Nat) : Int)) ∧ ∃ n, w' = w.drewN n := by
  have h1 : (288230376287764481 - b % 288230376287764481).toNat = 288230376287764481 - b.toNat % 288230376287764481 := by omega
  have he := addR_less a.toNat b.toNat
  rw [← h1] at he
  obtain ⟨z, hz⟩ : ∃ z : Int, z = b % 288230376287764481 := ⟨_, rfl⟩
  rw [← hz] at he
  have HE := Lib.hid he
  have e1 : b.tmod 288230376287764481 = z := by rw [Int.tmod_eq_emod_of_nonneg hb]; exact hz.symm
  have h2 : 0 ≤ z := by omega
  have h3 : z < 288230376287764481 := by omega
  replace hz := hz.symm
  clear he h1
  go_enter Tryd.func61, Tryd.ntmps61
  go_wp2_with (go_at_call 36; refine (r7Plus _ _ ha (by omega) _).mono ?_; rintro e w' ⟨rfl, n, rfl⟩)
  go_ret
  exact ⟨ret_u64 (by rw [HE.out]), _, rfl⟩
theorem r7Over (a b : Int) (ha : 0 ≤ a) (hb : 0 ≤ b) (w : World) :
    Calls Tryd.prog 60 #[.int .u64 a, .int .u64 b] w fun e w' => e = .returned (.int .u64 ((Obol.overR a.toNat b.toNat : Nat) : Int)) ∧ ∃ n, w' = w.drewN n := by
  go_enter Tryd.func60, Tryd.ntmps60
  go_wp2_with (first | (go_at_call 86; refine (R1Pow2 _ hb _).mono ?_; rintro e w' ⟨rfl, rfl⟩) | (go_at_call 59; refine (r7Mul _ _ (by omega) (by omega) _).mono ?_; rintro e w' ⟨rfl, n, rfl⟩))
  go_ret
  refine ⟨?_, _, rfl⟩
  show Ending.returned (.int .u64 ((Obol.mulR a.toNat (Obol.invR b.toNat) : Nat) : Int)) = _
  rw [Obol.overR]

theorem isN_near2 {x y : Nat} (h1 : x < 288230376287764481) (h2 : y < 288230376287764481) :
    Obol.isN (x, y) = (((Obol.mulR y y : Nat) : Int) == ((Obol.addR (Obol.mulR x x) (Obol.addR 1 (Obol.mulR 439 (Obol.mulR (Obol.mulR x x) (Obol.mulR y y)))) : Nat) : Int)) := by
  rw [isN_near h1 h2, Bool.eq_iff_iff, beq_iff_eq, beq_iff_eq, Int.ofNat_inj, Int.ofNat_inj]
  have h3 := Obol.mulR_lt y y
  have h4 := Obol.mulR_lt x x
  have h5 : Obol.addR 1 (Obol.mulR 439 (Obol.mulR (Obol.mulR x x) (Obol.mulR y y))) < Obol.R := by rw [Obol.addR_eq]; exact Nat.mod_lt _ Obol.R_pos
  generalize Obol.addR 1 (Obol.mulR 439 (Obol.mulR (Obol.mulR x x) (Obol.mulR y y))) = c at *
  generalize Obol.mulR x x = a at *
  generalize Obol.mulR y y = b at *
  rw [Obol.addR_eq, Obol.subR_eq, Obol.addQ, Obol.subQ]
  rw [Obol.R_def] at *
  omega

theorem r7Is (X Y : Int) (hX : 0 ≤ X) (hY : 0 ≤ Y) (w : World) :
    Calls Tryd.prog 69 #[edV X Y] w fun e w' => e = .returned (.bool (Obol.isN (X.toNat, Y.toNat))) ∧ Below w.heap.size w w' := by
  by_cases h1 : (288230376287764481 : Int) ≤ X
  · have hr := Lib.hid (isN_far1 (x := X.toNat) (y := Y.toNat) (by omega))
    go_enter Tryd.func69, Tryd.ntmps69
    go_wp2_with fail
    go_ret
    exact ⟨by rw [hr.out]; rfl, by repeat (first | exact Below.refl _ _ | assumption | apply bDrewN | apply bDrew | apply bAlloc | refine bSet ?_ (by omega) | refine bThen ?_ (by assumption) (by simp <;> omega))⟩
  · by_cases h2 : (288230376287764481 : Int) ≤ Y
    · have hr := Lib.hid (isN_far2 (x := X.toNat) (y := Y.toNat) (by omega))
      go_enter Tryd.func69, Tryd.ntmps69
      go_wp2_with fail
      go_ret
      exact ⟨by rw [hr.out]; rfl, by repeat (first | exact Below.refl _ _ | assumption | apply bDrewN | apply bDrew | apply bAlloc | refine bSet ?_ (by omega) | refine bThen ?_ (by assumption) (by simp <;> omega))⟩
    · have hr := Lib.hid (isN_near2 (x := X.toNat) (y := Y.toNat) (by omega) (by omega))
      go_enter Tryd.func69, Tryd.ntmps69
      go_wp2_with (first | (go_at_call 59; refine (r7Mul _ _ (by omega) (by omega) _).mono ?_; rintro e w' ⟨rfl, n, rfl⟩) | (go_at_call 36; refine (r7Plus _ _ (by omega) (by omega) _).mono ?_; rintro e w' ⟨rfl, n, rfl⟩))
      go_ret
      exact ⟨by rw [hr.out]; rfl, by repeat (first | exact Below.refl _ _ | assumption | apply bDrewN | apply bDrew | apply bAlloc | refine bSet ?_ (by omega) | refine bThen ?_ (by assumption) (by simp <;> omega))⟩

end Go.Proofs.YtallfmiikjmgaaaDoor
/- Whole blocks that are held together, and what lies below a bound. -/
namespace Go.Proofs.YtallfmiikjmgaaaDoor
open Go.RowKit

def HR (w w1 : World) (rs : List (Nat × Array Value × TypeId)) : Prop := (∀ r ∈ rs, Row w1 r.1 r.2.1 r.2.2) ∧ Below w.heap.size w w1
section
variable {w w1 w2 : World} {rs : List (Nat × Array Value × TypeId)}
theorem HR.refl (w : World) : HR w w [] := ⟨(fun r hr => by cases hr), Below.refl _ _⟩
theorem HR.drew (h : HR w w1 rs) : HR w w1.drew rs := ⟨fun r hr => (h.1 r hr).drew, bDrew h.2⟩
theorem HR.drewN (h : HR w w1 rs) (n : Nat) : HR w (w1.drewN n) rs := ⟨fun r hr => (h.1 r hr).drewN n, bDrewN h.2 n⟩
theorem HR.like (h : HR w w1 rs) (h1 : w2.heap = w1.heap) (h2 : w2.os = w1.os) (h3 : w2.tape = w1.tape) (h4 : w2.output = w1.output) : HR w w2 rs :=
  ⟨fun r hr => (congrArg (fun a : Array Obj => a[r.1]?) h1).trans (h.1 r hr), ⟨h2.trans h.2.os, h3.trans h.2.tape, h4.trans h.2.output, by rw [h1]; exact h.2.size, fun k hk => (congrArg (fun a : Array Obj => a[k]?) h1).trans (h.2.block k hk)⟩⟩
theorem HR.sub {qs : List (Nat × Array Value × TypeId)} (h : HR w w1 rs) (hs : ∀ r ∈ qs, r ∈ rs) : HR w w1 qs := ⟨fun r hr => h.1 r (hs r hr), h.2⟩
theorem HR.next (h : HR w w1 rs) (hb : Below w1.heap.size w1 w2) : HR w w2 rs := ⟨fun r hr => (h.1 r hr).below hb (h.1 r hr).lt, bThen h.2 hb h.2.size⟩
theorem HR.alloc (h : HR w w1 rs) (o : Obj) : HR w (w1.alloc o) rs := ⟨fun r hr => (h.1 r hr).alloc o, bAlloc h.2 o⟩
theorem HR.new (h : HR w w1 rs) (cs : Array Value) (t : TypeId) : HR w (w1.alloc (.cells cs t)) ((w1.heap.size, cs, t) :: rs) :=
  ⟨fun r hr => by
    rcases List.mem_cons.1 hr with rfl | hr
    · exact Row.new _ _ _
    · exact (h.1 r hr).alloc _, bAlloc h.2 _⟩
theorem HR.row (h : HR w w1 rs) {b : Nat} {cs : Array Value} {t : TypeId} (hr : (b, cs, t) ∈ rs) : Row w1 b cs t := h.1 _ hr
theorem HR.cell (h : HR w w1 rs) {b : Nat} {cs : Array Value} {t : TypeId} (hr : (b, cs, t) ∈ rs) (i : Nat) {v : Value} (hv : cs[i]? = some v) : w1.cell? ⟨b, i, none⟩ = some v := (h.1 _ hr).cell i hv
theorem HR.free (h : HR w w1 rs) {b : Nat} {cs : Array Value} {t : TypeId} (hr : (b, cs, t) ∈ rs) (i : Nat) : w1.frozen? ⟨b, i, none⟩ = false := (h.1 _ hr).free i
theorem HR.lt (h : HR w w1 rs) {b : Nat} {cs : Array Value} {t : TypeId} (hr : (b, cs, t) ∈ rs) : b < w1.heap.size := (h.1 _ hr).lt
theorem HR.tail {r : Nat × Array Value × TypeId} (h : HR w w1 (r :: rs)) : HR w w1 rs := ⟨fun q hq => h.1 q (List.mem_cons_of_mem _ hq), h.2⟩
theorem HR.add (h : HR w w1 rs) {b : Nat} {cs : Array Value} {t : TypeId} (hr : Row w1 b cs t) : HR w w1 ((b, cs, t) :: rs) := ⟨fun q hq => by
  rcases List.mem_cons.1 hq with rfl | hq
  · exact hr
  · exact h.1 q hq, h.2⟩
theorem HR.far (h : HR w w1 rs) : (∀ r ∈ rs, r.1 ≠ w1.heap.size) ∧ w.heap.size ≤ w1.heap.size := ⟨fun r hr => Nat.ne_of_lt (h.1 r hr).lt, h.2.size⟩
theorem HR.other (h : HR w w1 rs) {D o : Nat} {v : Value} (hne : ∀ r ∈ rs, r.1 ≠ D) (hD : w.heap.size ≤ D) : HR w (w1.setCell ⟨D, o, none⟩ v) rs := ⟨fun r hr => (h.1 r hr).other (hne r hr), bSet h.2 hD⟩
theorem HR.put {D : Nat} {cs : Array Value} {t : TypeId} (h : HR w w1 ((D, cs, t) :: rs)) (hne : ∀ r ∈ rs, r.1 ≠ D) (hD : w.heap.size ≤ D) (o : Nat) (v : Value) : HR w (w1.setCell ⟨D, o, none⟩ v) ((D, cs.setIfInBounds o v, t) :: rs) :=
  (h.tail.other hne hD).add ((h.1 _ (List.mem_cons_self ..)).set o v)
end

end Go.Proofs.YtallfmiikjmgaaaDoor
/- Walks: package edwards: the first point; the head of the statements of layer 7. -/
namespace Go.Proofs.YtallfmiikjmgaaaDoor
open Go.RowKit

theorem eGen (w : World) :
    Calls Tryd.prog 34 #[] w fun e w' => e = .returned (edV 223588670687113535 82055451961885530) ∧ Below w.heap.size w w' := by
  go_enter Tryd.func34, Tryd.ntmps34
  go_wp2_with fail
  refine bodyPost_ret (v := edV 223588670687113535 82055451961885530) (by simp [results, Tryd.results34, go_sem]) rfl ⟨rfl, ?_⟩
  repeat (first | exact Below.refl _ _ | assumption | apply bDrewN | apply bDrew | apply bAlloc | refine bSet ?_ (by omega) | refine bThen ?_ (by assumption) (by simp <;> omega))

/-- What the head's calls come to. -/
theorem upIs (w : World) : Calls Tryd.prog 81 #[edV 223588670687113535 82055451961885530] w fun e w' => e = .returned (.bool true) ∧ Below w.heap.size w w' := by
  have h := eIs 223588670687113535 82055451961885530 (by omega) (by omega) w
  have e : Obol.isN ((223588670687113535 : Int).toNat, (82055451961885530 : Int).toNat) = true := by rw [Obol.isN_eq]; decide +kernel
  rw [e] at h
  exact h
theorem upMul (w : World) : Calls Tryd.prog 33 #[edV 223588670687113535 82055451961885530, .int .u64 72057593894066549] w fun e w' => e = .returned (edV 0 1) ∧ Below w.heap.size w w' := by
  have h := eMulK 223588670687113535 82055451961885530 72057593894066549 (by omega) (by omega) (by omega) (by omega) w
  have e : Obol.smulN ((223588670687113535 : Int).toNat, (82055451961885530 : Int).toNat) (72057593894066549 : Int).toNat = (0, 1) := by
    have e1 : ((223588670687113535 : Int).toNat, (82055451961885530 : Int).toNat) = Obol.Pnt.n Obol.G := Obol.G_n.symm
    have e2 : (72057593894066549 : Int).toNat = Obol.S := by decide +kernel
    rw [e1, e2, Obol.smulN_eq, Obol.of_n, Obol.G_S, Obol.zero_n]
    rfl
  rw [e] at h
  exact h
theorem sure_ok {p : Nat × Nat} (h : Obol.isQ p = true) : Obol.sureN p = p := by unfold Obol.sureN; rw [Obol.isN_eq, if_pos h]
/-! what a region that draws holds on to: a block of two cells -/
theorem held2 {w w1 : World} {b : Nat} {v0 v1 : Value} {t : TypeId} (h : Row w1 b #[v0, v1] t) (hb : Below w.heap.size w w1) :
    w1.cell? ⟨b, 0, none⟩ = some v0 ∧ w1.cell? ⟨b, 1, none⟩ = some v1 ∧ Row w1 b #[v0, v1] t ∧ Below w.heap.size w w1 := ⟨h.cell 0 rfl, h.cell 1 rfl, h, hb⟩
theorem held2_drew {w w1 : World} {b : Nat} {v0 v1 : Value} {t : TypeId} (h : Row w1 b #[v0, v1] t) (hb : Below w.heap.size w w1) :
    w1.drew.cell? ⟨b, 0, none⟩ = some v0 ∧ w1.drew.cell? ⟨b, 1, none⟩ = some v1 ∧ Row w1.drew b #[v0, v1] t ∧ Below w.heap.size w w1.drew := held2 h.drew (bDrew hb)
theorem held2_next {w w1 w2 : World} {b : Nat} {v0 v1 : Value} {t : TypeId} (h : w1.cell? ⟨b, 0, none⟩ = some v0 ∧ w1.cell? ⟨b, 1, none⟩ = some v1 ∧ Row w1 b #[v0, v1] t ∧ Below w.heap.size w w1) (hb : Below w1.heap.size w1 w2) :
    w2.cell? ⟨b, 0, none⟩ = some v0 ∧ w2.cell? ⟨b, 1, none⟩ = some v1 ∧ Row w2 b #[v0, v1] t ∧ Below w.heap.size w w2 := held2 (h.2.2.1.below hb h.2.2.1.lt) (bThen h.2.2.2 hb h.2.2.2.size)

end Go.Proofs.YtallfmiikjmgaaaDoor
/- Walks: package edwards: points of order S. -/
namespace Go.Proofs.YtallfmiikjmgaaaDoor
open Go.RowKit

/-- Whether a pair is a point of order S. -/
noncomputable def inN (p : Nat × Nat) : Bool := Obol.isN p && decide (Obol.smulN p 72057593894066549 = (0, 1))
theorem litS : (72057593894066549 : Int).toNat = 72057593894066549 := by decide +kernel
theorem inN_far {p : Nat × Nat} (h : Obol.isN p = false) : inN p = false := by unfold inN; rw [h]; rfl
theorem inN_near {p : Nat × Nat} (h : Obol.isN p = true) : inN p = ((((Obol.smulN p 72057593894066549).1 : Nat) : Int) == 0 && (((Obol.smulN p 72057593894066549).2 : Nat) : Int) == 1) := by
  unfold inN
  rw [h, Bool.true_and, Bool.eq_iff_iff, Bool.and_eq_true, decide_eq_true_eq, beq_iff_eq, beq_iff_eq, Prod.ext_iff]
  simp only
  omega

theorem eIn (X Y : Int) (hX : 0 ≤ X) (hY : 0 ≤ Y) (w : World) :
    Calls Tryd.prog 62 #[edV X Y] w fun e w' => e = .returned (.bool (inN (X.toNat, Y.toNat))) ∧ Below w.heap.size w w' := by
  by_cases hi : Obol.isN (X.toNat, Y.toNat) = true
  · have hr := Lib.hid (inN_near hi)
    have hI := Lib.hid hi
    have hM := Lib.hid (fun w => eMulK X Y 72057593894066549 hX hY (by omega) (by omega) w)
    rw [litS] at hM
    generalize (((Obol.smulN (X.toNat, Y.toNat) 72057593894066549).1 : Nat) : Int) = mx at hr hM
    generalize (((Obol.smulN (X.toNat, Y.toNat) 72057593894066549).2 : Nat) : Int) = my at hr hM
    clear hi
    go_enter Tryd.func62, Tryd.ntmps62
    go_wp2_with (first
      | (go_at_call 81; refine (eIs _ _ hX hY _).mono ?_; rintro e w1 ⟨rfl, hb⟩; rw [hI.out]; obtain ⟨hc, hf⟩ := bcell hb; have hz := hb.size; (try simp at hz))
      | (go_at_call 33; refine (hM.out _).mono ?_; rintro e w2 ⟨rfl, hb2⟩; replace hb := bThen hb hb2 hb.size; clear hb2; obtain ⟨hc2, hf2⟩ := bcell hb; have hz2 := hb.size; (try simp at hz2))
      | (go_at_call 82; refine (eZero _).mono ?_; rintro e w3 ⟨rfl, hb3⟩; replace hb := bThen hb hb3 hb.size; clear hb3; obtain ⟨hc3, hf3⟩ := bcell hb; have hz3 := hb.size; (try simp at hz3)))
    all_goals
      go_ret
      refine ⟨?_, by repeat (first | exact Below.refl _ _ | assumption | apply bDrewN | apply bDrew | apply bAlloc | refine bSet ?_ (by omega) | refine bThen ?_ (by assumption) (by simp <;> omega))⟩
      rw [hr.out]
      first | (rename_i h1 h2; simp [h1, h2]) | (rename_i h1; simp [h1])
  · have hr := Lib.hid (inN_far (Bool.eq_false_iff.2 hi))
    have hI := Lib.hid (Bool.eq_false_iff.2 hi)
    clear hi
    go_enter Tryd.func62, Tryd.ntmps62
    go_wp2_with (go_at_call 81; refine (eIs _ _ hX hY _).mono ?_; rintro e w1 ⟨rfl, hb⟩; rw [hI.out]; obtain ⟨hc, hf⟩ := bcell hb; have hz := hb.size; (try simp at hz))
    go_ret
    exact ⟨by rw [hr.out]; rfl, by repeat (first | exact Below.refl _ _ | assumption | apply bDrewN | apply bDrew | apply bAlloc | refine bSet ?_ (by omega) | refine bThen ?_ (by assumption) (by simp <;> omega))⟩

end Go.Proofs.YtallfmiikjmgaaaDoor
/- Walks: the reference of layer 7: multiples. -/
namespace Go.Proofs.YtallfmiikjmgaaaDoor
open Go.RowKit

theorem r7Sum (X Y X' Y' : Int) (hX : 0 ≤ X) (hY : 0 ≤ Y) (hX' : 0 ≤ X') (hY' : 0 ≤ Y') (w : World) :
    Calls Tryd.prog 38 #[edV X Y, edV X' Y'] w fun e w' =>
      e = .returned (edV ((Obol.sumN (X.toNat, Y.toNat) (X'.toNat, Y'.toNat)).1 : Nat) ((Obol.sumN (X.toNat, Y.toNat) (X'.toNat, Y'.toNat)).2 : Nat)) ∧ Below w.heap.size w w' := by
  have h0 : Hid (Obol.sumN (X.toNat, Y.toNat) (X'.toNat, Y'.toNat) =
      (Obol.overR (Obol.addR (Obol.mulR X.toNat Y'.toNat) (Obol.mulR Y.toNat X'.toNat)) (Obol.addR 1 (Obol.mulR 439 (Obol.mulR (Obol.mulR X.toNat X'.toNat) (Obol.mulR Y.toNat Y'.toNat)))),
       Obol.overR (Obol.addR (Obol.mulR Y.toNat Y'.toNat) (Obol.mulR X.toNat X'.toNat)) (Obol.subR 1 (Obol.mulR 439 (Obol.mulR (Obol.mulR X.toNat X'.toNat) (Obol.mulR Y.toNat Y'.toNat)))))) := Lib.hid (by
    unfold Obol.sumN
    have : Obol.addR (Obol.mulR Y.toNat Y'.toNat) (Obol.mulR X.toNat X'.toNat) = Obol.addR (Obol.mulR X.toNat X'.toNat) (Obol.mulR Y.toNat Y'.toNat) := by
      rw [Obol.addR_eq, Obol.addQ, Obol.addQ, Nat.add_comm]
    rw [this])
  go_enter Tryd.func38, Tryd.ntmps38
  go_wp2_with fail
  go_quiet ((first | (go_at_call 59; first | (refine Calls.quiet_of (r7Mul _ _ ?_ ?_ _) <;> omega) | (refine quiet_add (r7Mul _ _ ?_ ?_ _) <;> omega))))
  go_wp2_with (first | (go_at_call 59; refine (r7Mul _ _ (by omega) (by omega) _).mono ?_; rintro e w' ⟨rfl, n, rfl⟩))
  go_quiet ((first | (go_at_call 59; first | (refine Calls.quiet_of (r7Mul _ _ ?_ ?_ _) <;> omega) | (refine quiet_add (r7Mul _ _ ?_ ?_ _) <;> omega)) | (go_at_call 36; first | (refine Calls.quiet_of (r7Plus _ _ ?_ ?_ _) <;> omega) | (refine quiet_add (r7Plus _ _ ?_ ?_ _) <;> omega))))
  go_wp2_with (first | (go_at_call 60; refine (r7Over _ _ (by omega) (by omega) _).mono ?_; rintro e w' ⟨rfl, n, rfl⟩) | (go_at_call 36; refine (r7Plus _ _ (by omega) (by omega) _).mono ?_; rintro e w' ⟨rfl, n, rfl⟩) | (go_at_call 61; refine (r7Less _ _ (by omega) (by omega) _).mono ?_; rintro e w' ⟨rfl, n, rfl⟩))
  go_quiet ((first | (go_at_call 59; first | (refine Calls.quiet_of (r7Mul _ _ ?_ ?_ _) <;> omega) | (refine quiet_add (r7Mul _ _ ?_ ?_ _) <;> omega)) | (go_at_call 36; first | (refine Calls.quiet_of (r7Plus _ _ ?_ ?_ _) <;> omega) | (refine quiet_add (r7Plus _ _ ?_ ?_ _) <;> omega))))
  go_wp2_with (first | (go_at_call 60; refine (r7Over _ _ (by omega) (by omega) _).mono ?_; rintro e w' ⟨rfl, n, rfl⟩) | (go_at_call 36; refine (r7Plus _ _ (by omega) (by omega) _).mono ?_; rintro e w' ⟨rfl, n, rfl⟩) | (go_at_call 61; refine (r7Less _ _ (by omega) (by omega) _).mono ?_; rintro e w' ⟨rfl, n, rfl⟩))
  refine bodyPost_ret (v := edV _ _) (by simp [results, Tryd.results38, go_sem]; exact ⟨rfl, rfl⟩) rfl ⟨?_, ?_⟩
  · rw [h0.out]
  · repeat (first | exact Below.refl _ _ | assumption | apply bDrewN | apply bDrew | apply bAlloc | refine bSet ?_ (by omega) | refine bThen ?_ (by assumption) (by simp <;> omega))

/-- What is known ahead of a multiple's next bit. -/
structure R7T (a : Nat × Nat) (k : Nat) (ox oy i : Int) : Prop where
  i0 : 0 ≤ i
  i1 : i ≤ 64
  x0 : 0 ≤ ox
  y0 : 0 ≤ oy
  eq : Obol.timesN a k (64 - i.toNat) (ox.toNat, oy.toNat) = Obol.timesN a k 64 Obol.zeroN

theorem timesN_next (a : Nat × Nat) (k j : Nat) (o : Nat × Nat) : Obol.timesN a k (j + 1) o = Obol.timesN a k j (if k / 2 ^ j % 2 = 1 then Obol.sumN (if o = Obol.zeroN then o else Obol.sumN o o) a else (if o = Obol.zeroN then o else Obol.sumN o o)) := rfl
theorem R7T.step {a : Nat × Nat} {k : Nat} {ox oy i : Int} {y : Int} (h : R7T a k ox oy i) (hk : k = y.toNat) (hy : 0 ≤ y) (hi : i < 64) {o : Nat × Nat} (ho : o = if (ox.toNat, oy.toNat) = Obol.zeroN then (ox.toNat, oy.toNat) else Obol.sumN (ox.toNat, oy.toNat) (ox.toNat, oy.toNat))
    {o' : Nat × Nat} (ho' : o' = if bitI y i = 1 then Obol.sumN o a else o) : R7T a k (o'.1 : Nat) (o'.2 : Nat) (i + 1) := by
  have i0 := h.i0
  refine ⟨by omega, by omega, by omega, by omega, ?_⟩
  have he := h.eq
  rw [show 64 - i.toNat = (63 - i.toNat) + 1 by omega, timesN_next, ← ho] at he
  have hb := bitI_toNat y i hy i0 hi
  rw [show 64 - (i + 1).toNat = 63 - i.toNat by omega, Int.toNat_natCast, Int.toNat_natCast]
  rw [← he, ho']
  by_cases hB : bitI y i = 1
  · rw [if_pos hB, if_pos (by rw [hk]; omega)]
  · rw [if_neg hB, if_neg (by rw [hk]; omega)]
theorem R7T.done {a : Nat × Nat} {k : Nat} {ox oy i : Int} (h : R7T a k ox oy i) (hi : ¬ i < 64) : edV ox oy = edV ((Obol.timesN a k 64 Obol.zeroN).1 : Nat) ((Obol.timesN a k 64 Obol.zeroN).2 : Nat) := by
  have i1 := h.i1
  have he := h.eq
  have x0 := h.x0
  have y0 := h.y0
  rw [show 64 - i.toNat = 0 by omega, Obol.timesN] at he
  rw [← he]
  show edV ox oy = edV ((ox.toNat : Nat) : Int) ((oy.toNat : Nat) : Int)
  rw [Int.toNat_of_nonneg x0, Int.toNat_of_nonneg y0]
theorem zero_or {ox oy : Int} (h0 : 0 ≤ ox) : ((ox.toNat, oy.toNat) = Obol.zeroN) ↔ (ox = 0 ∧ oy = 1) := by
  unfold Obol.zeroN
  rw [Prod.mk.injEq]
  omega

set_option maxHeartbeats 1000000 in
theorem r7Times (X Y k : Int) (hX : 0 ≤ X) (hY : 0 ≤ Y) (hk : 0 ≤ k) (hk1 : k ≤ 18446744073709551615) (w : World) :
    Calls Tryd.prog 16 #[edV X Y, .int .u64 k] w fun e w' =>
      e = .returned (edV ((Obol.timesN (X.toNat, Y.toNat) k.toNat 64 Obol.zeroN).1 : Nat) ((Obol.timesN (X.toNat, Y.toNat) k.toNat 64 Obol.zeroN).2 : Nat)) ∧ Below w.heap.size w w' := by
  have I0 : Hid (R7T (X.toNat, Y.toNat) k.toNat 0 1 0) := Lib.hid ⟨by omega, by omega, by omega, by omega, rfl⟩
  go_enter Tryd.func16, Tryd.ntmps16
  go_wp2_with fail
  go_loopw [6] (fun c wr => ∃ ox oy i : Int, c = .int .i64 i ∧ Row wr w.heap.size #[.int .u64 X, .int .u64 Y] 29 ∧ Row wr (w.heap.size + 1) #[.int .u64 0, .int .u64 0] 29 ∧ Row wr (w.heap.size + 2) #[.int .u64 ox, .int .u64 oy] 29 ∧
    Below w.heap.size w wr ∧ Hid (R7T (X.toNat, Y.toNat) k.toNat ox oy i)) (fun c _ => (64 - intOf c).toNat)
  case atStart => exact ⟨0, 1, 0, rfl, by repeat (first | assumption | exact Row.newAt _ _ (by simp) | apply Row.alloc | apply Row.drewN | apply Row.drew | refine Row.other ?_ (by omega)), by repeat (first | assumption | exact Row.newAt _ _ (by simp) | apply Row.alloc | apply Row.drewN | apply Row.drew | refine Row.other ?_ (by omega)), by repeat (first | assumption | exact Row.newAt _ _ (by simp) | apply Row.alloc | apply Row.drewN | apply Row.drew | refine Row.other ?_ (by omega)), by repeat (first | exact Below.refl _ _ | assumption | apply bDrewN | apply bDrew | apply bAlloc | refine bSet ?_ (by omega) | refine bThen ?_ (by assumption) (by simp <;> omega)), I0⟩
  case round =>
    clear I0
    obtain ⟨ox, oy, i, rfl, Ra, Rr, Ro, hb, HI⟩ := hrel
    have i0 := HI.out.i0
    have i1 := HI.out.i1
    have o1 := HI.out.x0
    have o2 := HI.out.y0
    have ea := bitI_bits k i hk hk1
    have q0 := Ro.cell 0 rfl
    have q1 := Ro.cell 1 rfl
    have p0 := Ra.cell 0 rfl
    have p1 := Ra.cell 1 rfl
    have f0 := Ro.free 0
    have f1 := Ro.free 1
    by_cases hi : i < 64
    · by_cases hz : ox = 0 ∧ oy = 1
      · obtain ⟨rfl, rfl⟩ := hz
        have HS := fun o' => Lib.hid (HI.out.step (y := k) (o := (0, 1)) (o' := o') rfl hk hi (by rw [if_pos]; rfl; rfl))
        rcases bitI_01 k i with hB | hB
        · have HN := Lib.hid ((HS (0, 1)).out (by rw [hB]; rfl))
          rw [hB] at ea
          clear HS
          go_wp2_with fail
          exact ⟨⟨_, _, _, rfl, Ra, Rr, Ro, hb, HN⟩, by simp [intOf]; omega⟩
        · have HN := Lib.hid ((HS _).out (by rw [if_pos hB]))
          rw [hB] at ea
          clear HS
          go_wp2_with fail
          refine (r7Sum _ _ _ _ (by omega) (by omega) (by omega) (by omega) _).mono ?_
          rintro e w3 ⟨rfl, hb3⟩
          replace hb := bThen hb hb3 hb.size
          replace Ra := Ra.below hb3 Ra.lt
          replace Rr := Rr.below hb3 Rr.lt
          replace Ro := Ro.below hb3 Ro.lt
          clear q0 q1 p0 p1 f0 f1 hb3
          have f0 := Ro.free 0
          have f1 := Ro.free 1
          have q0 := Ro.cell 0 rfl
          have q1 := Ro.cell 1 rfl
          go_wp2_with fail
          exact ⟨⟨_, _, _, rfl, (Ra.other (by omega)).other (by omega), (Rr.other (by omega)).other (by omega), Ro.set2, bSet (bSet hb (by omega)) (by omega), HN⟩, by simp [intOf]; omega⟩
      · have hz0 : ¬ (ox.toNat, oy.toNat) = Obol.zeroN := fun e => hz ((zero_or o1).1 e)
        have HS := fun o' => Lib.hid (HI.out.step (y := k) (o := Obol.sumN (ox.toNat, oy.toNat) (ox.toNat, oy.toNat)) (o' := o') rfl hk hi (by rw [if_neg hz0]))
        have hz' : ¬ (ox = 0 ∧ oy = 1) := hz
        have HM : Hid (Obol.sumN (ox.toNat, oy.toNat) (ox.toNat, oy.toNat) = ((((Obol.sumN (ox.toNat, oy.toNat) (ox.toNat, oy.toNat)).1 : Nat) : Int).toNat, (((Obol.sumN (ox.toNat, oy.toNat) (ox.toNat, oy.toNat)).2 : Nat) : Int).toNat)) := Lib.hid (by rw [Int.toNat_natCast, Int.toNat_natCast])
        have HB : Hid (∀ Q : Prop, (ox ≠ 0 → Q) → (ox = 0 → oy ≠ 1 → Q) → Q) := Lib.hid (fun Q h1 h2 => by by_cases hx : ox = 0; exact h2 hx (fun hy => hz ⟨hx, hy⟩); exact h1 hx)
        clear hz hz0 hz'
        refine HB.out _ (fun hx => ?_) (fun hx hy => ?_)
        all_goals (try subst hx)
        all_goals rcases bitI_01 k i with hB | hB
        all_goals
          first
            | (have HN := Lib.hid ((HS _).out (by rw [if_pos hB]))
               rw [HM.out] at HN
               rw [hB] at ea
               clear HS HB
               go_wp2_with fail
               refine (r7Sum _ _ _ _ (by omega) (by omega) (by omega) (by omega) _).mono ?_
               rintro e w3 ⟨rfl, hb3⟩
               replace hb := bThen hb hb3 hb.size
               replace Ra := Ra.below hb3 Ra.lt
               replace Rr := Rr.below hb3 Rr.lt
               replace Ro := Ro.below hb3 Ro.lt
               clear q0 q1 p0 p1 f0 f1 hb3
               have f0 := Ro.free 0
               have f1 := Ro.free 1
               have q0 := Ro.cell 0 rfl
               have q1 := Ro.cell 1 rfl
               have p0 := Ra.cell 0 rfl
               have p1 := Ra.cell 1 rfl
               go_wp2_with fail
               refine (r7Sum _ _ _ _ (by omega) (by omega) (by omega) (by omega) _).mono ?_
               rintro e w4 ⟨rfl, hb4⟩
               replace hb := bThen (bSet (bSet hb (b := w.heap.size + 2) (by omega)) (b := w.heap.size + 2) (by omega)) hb4 (bSet (bSet hb (b := w.heap.size + 2) (by omega)) (b := w.heap.size + 2) (by omega)).size
               replace Ra := ((Ra.other (by omega)).other (by omega)).below hb4 ((Ra.other (by omega)).other (by omega)).lt
               replace Rr := ((Rr.other (by omega)).other (by omega)).below hb4 ((Rr.other (by omega)).other (by omega)).lt
               replace Ro := Ro.set2.below hb4 Ro.set2.lt
               clear q0 q1 p0 p1 f0 f1 hb4
               have f0 := Ro.free 0
               have f1 := Ro.free 1
               have q0 := Ro.cell 0 rfl
               have q1 := Ro.cell 1 rfl
               go_wp2_with fail
               exact ⟨⟨_, _, _, rfl, (Ra.other (by omega)).other (by omega), (Rr.other (by omega)).other (by omega), Ro.set2, bSet (bSet hb (by omega)) (by omega), HN⟩, by simp [intOf]; omega⟩)
            | (have HN := Lib.hid ((HS _).out (by rw [if_neg (show ¬ bitI k i = 1 by omega)]))
               rw [hB] at ea
               clear HS HB
               go_wp2_with fail
               refine (r7Sum _ _ _ _ (by omega) (by omega) (by omega) (by omega) _).mono ?_
               rintro e w3 ⟨rfl, hb3⟩
               replace hb := bThen hb hb3 hb.size
               replace Ra := Ra.below hb3 Ra.lt
               replace Rr := Rr.below hb3 Rr.lt
               replace Ro := Ro.below hb3 Ro.lt
               clear q0 q1 p0 p1 f0 f1 hb3
               have f0 := Ro.free 0
               have f1 := Ro.free 1
               have q0 := Ro.cell 0 rfl
               have q1 := Ro.cell 1 rfl
               go_wp2_with fail
               exact ⟨⟨_, _, _, rfl, (Ra.other (by omega)).other (by omega), (Rr.other (by omega)).other (by omega), Ro.set2, bSet (bSet hb (by omega)) (by omega), HN⟩, by simp [intOf]; omega⟩)
    · have HD := Lib.hid (HI.out.done hi)
      have r0 := Rr.cell 0 rfl
      have r1 := Rr.cell 1 rfl
      have fr0 := Rr.free 0
      have fr1 := Rr.free 1
      clear HI
      go_wp2_with fail
      refine bodyPost_ret (v := edV ox oy) (by simp [results, Tryd.results16, go_sem, r0, r1]) rfl ⟨by rw [HD.out], ?_⟩
      repeat (first | exact Below.refl _ _ | assumption | apply bDrewN | apply bDrew | apply bAlloc | refine bSet ?_ (by omega) | refine bThen ?_ (by assumption) (by simp <;> omega))

end Go.Proofs.YtallfmiikjmgaaaDoor
/- Walks: packages edwards, obolref07: points of order S. -/
namespace Go.Proofs.YtallfmiikjmgaaaDoor
open Go.RowKit

theorem sure_of {p : Nat × Nat} (h : Obol.isN p = true) : Obol.sureN p = p := by unfold Obol.sureN; rw [if_pos h]
theorem times_is (p : Nat × Nat) (k : Nat) (hk : k < 2 ^ 64) : Obol.timesN (Obol.sureN p) k 64 Obol.zeroN = Obol.smulN p k := by
  rw [Obol.smulN_eq, Obol.sure_n, Obol.times_n _ _ hk]

theorem r7In (X Y : Int) (hX : 0 ≤ X) (hY : 0 ≤ Y) (w : World) :
    Calls Tryd.prog 42 #[edV X Y] w fun e w' => e = .returned (.bool (inN (X.toNat, Y.toNat))) ∧ Below w.heap.size w w' := by
  by_cases hi : Obol.isN (X.toNat, Y.toNat) = true
  · have hr := Lib.hid (inN_near hi)
    have hI := Lib.hid hi
    have hM := Lib.hid (fun w => r7Times X Y 72057593894066549 hX hY (by omega) (by omega) w)
    have ht := times_is (X.toNat, Y.toNat) 72057593894066549 (by decide +kernel)
    rw [sure_of hi] at ht
    rw [litS, ht] at hM
    clear ht
    generalize (((Obol.smulN (X.toNat, Y.toNat) 72057593894066549).1 : Nat) : Int) = mx at hr hM
    generalize (((Obol.smulN (X.toNat, Y.toNat) 72057593894066549).2 : Nat) : Int) = my at hr hM
    clear hi
    go_enter Tryd.func42, Tryd.ntmps42
    go_wp2_with (first
      | (go_at_call 69; refine (r7Is _ _ hX hY _).mono ?_; rintro e w1 ⟨rfl, hb⟩; rw [hI.out]; obtain ⟨hc, hf⟩ := bcell hb; have hz := hb.size; (try simp at hz))
      | (go_at_call 16; refine (hM.out _).mono ?_; rintro e w2 ⟨rfl, hb2⟩; replace hb := bThen hb hb2 hb.size; clear hb2; obtain ⟨hc2, hf2⟩ := bcell hb; have hz2 := hb.size; (try simp at hz2)))
    all_goals
      go_ret
      refine ⟨?_, by repeat (first | exact Below.refl _ _ | assumption | apply bDrewN | apply bDrew | apply bAlloc | refine bSet ?_ (by omega) | refine bThen ?_ (by assumption) (by simp <;> omega))⟩
      rw [hr.out]
      first | (rename_i h1 h2; simp [h1, h2]) | (rename_i h1; simp [h1])
  · have hr := Lib.hid (inN_far (Bool.eq_false_iff.2 hi))
    have hI := Lib.hid (Bool.eq_false_iff.2 hi)
    clear hi
    go_enter Tryd.func42, Tryd.ntmps42
    go_wp2_with (go_at_call 69; refine (r7Is _ _ hX hY _).mono ?_; rintro e w1 ⟨rfl, hb⟩; rw [hI.out]; obtain ⟨hc, hf⟩ := bcell hb; have hz := hb.size; (try simp at hz))
    go_ret
    exact ⟨by rw [hr.out]; rfl, by repeat (first | exact Below.refl _ _ | assumption | apply bDrewN | apply bDrew | apply bAlloc | refine bSet ?_ (by omega) | refine bThen ?_ (by assumption) (by simp <;> omega))⟩

end Go.Proofs.YtallfmiikjmgaaaDoor
/- Walks: package modular: roots. -/
namespace Go.Proofs.YtallfmiikjmgaaaDoor
open Go.RowKit

theorem litH : (144115188143882240 : Int).toNat = (Obol.R - 1) / 2 := by decide +kernel
theorem lit3 : (3 : Int).toNat = 3 := rfl
theorem RPow (a e : Int) (ha : 0 ≤ a) (he : 0 ≤ e) (he1 : e ≤ 18446744073709551615) (w : World) :
    Calls Tryd.prog 56 #[.int .u64 288230376287764481, .int .u64 a, .int .u64 e] w fun r w' => r = .returned (.int .u64 ((Obol.powR a.toNat e.toNat : Nat) : Int)) ∧ ∃ n, w' = w.drewN n := by
  have h := mPow 288230376287764481 a e (by omega) (by omega) ha he he1 w
  rw [litR] at h
  rw [Obol.powM, ← Obol.powR_eq] at h
  exact h

/-- What an error value of package api is. -/
abbrev errV (k : Int) : Value := .iface 35 (.int .i64 k)
noncomputable abbrev rootV (a : Nat) : Value := if Obol.sqB a = true then .tuple #[.int .u64 (if a % Obol.R = 0 then 0 else (Obol.rootN a : Nat)), .nilIface] else .tuple #[.int .u64 0, errV 2]

/-- The root that is told. -/
def RootI' (a : Nat) (x : Int) : Prop := x = ((Obol.rootN a : Nat) : Int)

/-- The loop that halves R - 1. -/
structure OddI (O T : Int) : Prop where
  t0 : 0 ≤ T
  t1 : T ≤ 18
  eq : O = 1099511628295 * 2 ^ (18 - T.toNat)
theorem OddI.pos {O T : Int} (h : OddI O T) : 1 ≤ O ∧ O ≤ 288230376287764480 := by
  have h1 : (1 : Int) ≤ 2 ^ (18 - T.toNat) := Int.add_one_le_of_lt (Int.pow_pos (by omega))
  have h2 : 2 ^ (18 - T.toNat) ≤ 2 ^ 18 := Nat.pow_le_pow_right (by omega) (by omega)
  have h3 : ((2 ^ (18 - T.toNat) : Nat) : Int) = 2 ^ (18 - T.toNat) := by rw [Int.natCast_pow]; rfl
  rw [h.eq]
  omega
theorem OddI.step {O T : Int} (h : OddI O T) (ht : T < 18) : O % 2 = 0 ∧ OddI (O / 2) (T + 1) := by
  have t0 := h.t0
  have e : O = 1099511628295 * 2 ^ (18 - (T + 1).toNat) * 2 := by
    rw [h.eq, show 18 - T.toNat = 18 - (T + 1).toNat + 1 by omega, Int.pow_succ, Int.mul_assoc]
  generalize hz : (1099511628295 : Int) * 2 ^ (18 - (T + 1).toNat) = z at e
  exact ⟨by omega, by omega, by omega, by omega⟩
theorem OddI.last {O : Int} (h : OddI O 18) : O = 1099511628295 := by
  rw [h.eq]
  decide

end Go.Proofs.YtallfmiikjmgaaaDoor
/- Walks: package edwards: the X of a Y. -/
namespace Go.Proofs.YtallfmiikjmgaaaDoor
open Go.RowKit

theorem root_zero {a : Nat} (h : a % Obol.R = 0) : Obol.rootN a = 0 := by
  have hs : Obol.sqB a = true := by unfold Obol.sqB; rw [h]; rfl
  exact (Obol.rootN_is hs (x := 0) (by omega) (by rw [h]; rfl)).symm
theorem rootV_yes {a : Nat} (h : Obol.sqB a = true) : rootV a = .tuple #[.int .u64 (Obol.rootN a : Nat), .nilIface] := by
  unfold rootV
  rw [if_pos h]
  split
  · rename_i h0
    rw [root_zero h0]
    rfl
  · rfl
theorem rootV_no {a : Nat} (h : Obol.sqB a = false) : rootV a = .tuple #[.int .u64 0, errV 2] := by
  unfold rootV
  rw [h]
  rfl

/-- What X times X is, at a Y. -/
noncomputable def sqY (y : Nat) : Nat := Obol.overR (Obol.subR (Obol.mulR y y) 1) (Obol.addR 1 (Obol.mulR 439 (Obol.mulR y y)))

end Go.Proofs.YtallfmiikjmgaaaDoor
