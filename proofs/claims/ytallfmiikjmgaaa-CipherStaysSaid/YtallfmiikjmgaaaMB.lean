import Derived.Test.YtallfmiikjmgaaaProg
import Derived.WalkKit
import Derived.KernelRfl
import Derived.Deep.QuietTactic
import Derived.BigQuiet
import Derived.Deep.Draws
import Derived.WalkSpells
import Derived.WalkLawsBesides
import Derived.Laws.Bits64
import Derived.Laws.Bits64b
import Derived.Laws.BitsAllLaws
import Derived.Lib.Hide
import Derived.Lib.Mul64
import Derived.Lib.BitFns
import Derived.Lib.ItoaNum
import Derived.Lib.Strings
import Derived.Lib.Slices
import Derived.Lib.Small
import Derived.Lib.Walk
import Derived.Below
import Derived.Laws.Rows
import Derived.RowKit
import Derived.Test.YtallfmiikjmgaaaMA
import Derived.Deep.RegionHeld3
/- Whole blocks of memory, and what lies below a bound. -/
namespace Go.Proofs.Ytallfmiikjmgaaa
open Go.RowKit

theorem bDrewN {B : Nat} {a w : World} (h : Below B a w) (n : Nat) : Below B a (w.drewN n) := ⟨h.os, h.tape, h.output, h.size, h.block⟩
theorem bDrew {B : Nat} {a w : World} (h : Below B a w) : Below B a w.drew := ⟨h.os, h.tape, h.output, h.size, h.block⟩
theorem bSet {B : Nat} {a w : World} (h : Below B a w) {b o : Nat} (hp : B ≤ b) {u : Value} : Below B a (w.setCell ⟨b, o, none⟩ u) := h.setCell hp u
theorem bAlloc {w W : World} (h : Below w.heap.size w W) (o : Obj) : Below w.heap.size w (W.alloc o) := h.alloc h.size o

theorem bcell {W w1 : World} (hb : Below W.heap.size W w1) : (∀ b o, b < W.heap.size → w1.cell? ⟨b, o, none⟩ = W.cell? ⟨b, o, none⟩) ∧ (∀ b o, b < W.heap.size → w1.frozen? ⟨b, o, none⟩ = W.frozen? ⟨b, o, none⟩) :=
  ⟨fun b o h => hb.cell (p := ⟨b, o, none⟩) h, fun b o h => hb.frozen (p := ⟨b, o, none⟩) h⟩

/-! whole blocks -/
def Row (w : World) (b : Nat) (cs : Array Value) (t : TypeId) : Prop := w.heap[b]? = some (.cells cs t (0, 0))
theorem Row.lt {w : World} {b : Nat} {cs : Array Value} {t : TypeId} (h : Row w b cs t) : b < w.heap.size := (Array.getElem?_eq_some_iff.1 h).1
theorem Row.cell {w : World} {b : Nat} {cs : Array Value} {t : TypeId} (h : Row w b cs t) (j : Nat) {v : Value} (hj : cs[j]? = some v) : w.cell? ⟨b, j, none⟩ = some v := (cell_of_row w b j cs t (0, 0) h).trans hj
theorem Row.free {w : World} {b : Nat} {cs : Array Value} {t : TypeId} (h : Row w b cs t) (j : Nat) : w.frozen? ⟨b, j, none⟩ = false := frozen_of_row w b j cs t h
theorem Row.new (w : World) (cs : Array Value) (t : TypeId) : Row (w.alloc (.cells cs t)) w.heap.size cs t := heap_alloc_new w _
theorem Row.new1 (w : World) (o : Obj) (cs : Array Value) (t : TypeId) : Row ((w.alloc o).alloc (.cells cs t)) (w.heap.size + 1) cs t := by have h := Row.new (w.alloc o) cs t; rw [World.size_alloc] at h; exact h
theorem Row.alloc {w : World} {b : Nat} {cs : Array Value} {t : TypeId} (h : Row w b cs t) (o : Obj) : Row (w.alloc o) b cs t := (heap_alloc_old w o h.lt).trans h
theorem Row.below {B : Nat} {w w' : World} {b : Nat} {cs : Array Value} {t : TypeId} (h : Row w b cs t) (hb : Below B w w') (hB : b < B) : Row w' b cs t := (hb.block b hB).trans h
theorem Row.drewN {w : World} {b : Nat} {cs : Array Value} {t : TypeId} (h : Row w b cs t) (n : Nat) : Row (w.drewN n) b cs t := h
theorem Row.drew {w : World} {b : Nat} {cs : Array Value} {t : TypeId} (h : Row w b cs t) : Row w.drew b cs t := h
theorem Row.other {w : World} {b c o : Nat} {cs : Array Value} {t : TypeId} {v : Value} (h : Row w b cs t) (hne : b ≠ c) : Row (w.setCell ⟨c, o, none⟩ v) b cs t := (heap_setCell_other w ⟨c, o, none⟩ b v hne).trans h
theorem Row.set {w : World} {b : Nat} {cs : Array Value} {t : TypeId} (h : Row w b cs t) (i : Nat) (v : Value) : Row (w.setCell ⟨b, i, none⟩ v) b (cs.setIfInBounds i v) t := heap_setCell_same w b i cs t v h
theorem Row.set2 {w : World} {b : Nat} {a0 a1 v0 v1 : Value} {t : TypeId} (h : Row w b #[a0, a1] t) : Row ((w.setCell ⟨b, 0, none⟩ v0).setCell ⟨b, 1, none⟩ v1) b #[v0, v1] t := (h.set 0 v0).set 1 v1
theorem Row.set3 {w : World} {b : Nat} {a0 a1 a2 v0 v1 v2 : Value} {t : TypeId} (h : Row w b #[a0, a1, a2] t) : Row (((w.setCell ⟨b, 0, none⟩ v0).setCell ⟨b, 1, none⟩ v1).setCell ⟨b, 2, none⟩ v2) b #[v0, v1, v2] t := ((h.set 0 v0).set 1 v1).set 2 v2

theorem bThen {B : Nat} {w W w1 : World} (h : Below B w W) (hb : Below W.heap.size W w1) (hB : B ≤ W.heap.size) : Below B w w1 := h.trans (hb.mono hB)
theorem Row.newAt {W : World} {b : Nat} (cs : Array Value) (t : TypeId) (h : W.heap.size = b) : Row (W.alloc (.cells cs t)) b cs t := by subst h; exact Row.new _ _ _

end Go.Proofs.Ytallfmiikjmgaaa
/- Walks: math/bits: Mul64, Len64, LeadingZeros64. -/
namespace Go.Proofs.Ytallfmiikjmgaaa
open Go.RowKit

theorem ret_u64 {a b : Int} (h : a = b) : Ending.returned (.int .u64 a) = .returned (.int .u64 b) := by rw [h]

/-- A callee that leaves the world alone, met in a region that draws its order. -/
theorem q_same {P : Program} {f : FuncId} {args : Array Value} {w : World} {n : Nat} {v : Value} (h : Calls P f args (w.drewN n) fun e w' => e = .returned v ∧ w.drewN n = w') :
    Calls P f args (w.drewN n) fun e w'' => e = .returned v ∧ ∃ m, w'' = w.drewN m := Calls.quiet_of_same (h.mono fun _ _ h => ⟨h.1, h.2.symm⟩)

theorem quiet_add {P : Program} {f : FuncId} {args : Array Value} {w : World} {a n : Nat} {v : Value} (h : Calls P f args (w.drewN (a + n)) fun e w' => e = .returned v ∧ ∃ m, w' = (w.drewN (a + n)).drewN m) :
    Calls P f args (w.drewN (a + n)) fun e w'' => e = .returned v ∧ ∃ m, w'' = w.drewN (a + m) := h.mono fun _ _ ⟨he, m, hm⟩ => ⟨he, n + m, by rw [hm, World.drewN_drewN, Nat.add_assoc]⟩

theorem maskN (a : Nat) (ha : a < 18446744073709551616) : bits .and .u64 (a : Int) 4294967295 = ((a % 4294967296 : Nat) : Int) := by
  have h := bits_and_u64_nat a 4294967295 ha (by omega)
  have e : a &&& 4294967295 = a % 4294967296 := Nat.and_two_pow_sub_one_eq_mod a 32
  rw [e] at h
  exact h
theorem divN (a : Nat) : (a : Int) / 4294967296 = ((a / 4294967296 : Nat) : Int) := by omega
theorem mulN (a b : Nat) : (a : Int) * (b : Int) = ((a * b : Nat) : Int) := (Int.natCast_mul a b).symm
theorem addN (a b : Nat) : (a : Int) + (b : Int) = ((a + b : Nat) : Int) := (Int.natCast_add a b).symm
theorem wrapN (a : Nat) (ha : a < 18446744073709551616) : IntKind.u64.wrap (a : Int) = (a : Int) := by rw [IntKind.wrap_u64]; omega
theorem wrapM (a : Nat) : IntKind.u64.wrap (a : Int) = ((a % 18446744073709551616 : Nat) : Int) := by rw [IntKind.wrap_u64]; omega

theorem mul64_any (x y : Nat) (hx : x < 18446744073709551616) (hy : y < 18446744073709551616) (w : World) :
    Calls Try.prog 134 #[.int .u64 (x : Int), .int .u64 (y : Int)] w fun e w' =>
      e = .returned (.tuple #[.int .u64 ((x * y / 18446744073709551616 : Nat) : Int), .int .u64 ((x * y % 18446744073709551616 : Nat) : Int)]) ∧ w = w' := by
  obtain ⟨bd, bt, bw, hhi⟩ := Lib.mul64_hi x y hx hy
  have ba := Lib.half_mul_le (a := x / 4294967296) (b := y / 4294967296) (by omega) (by omega)
  have bb := Lib.half_mul_le (a := x / 4294967296) (b := y % 4294967296) (by omega) (by omega)
  have bc := Lib.half_mul_le (a := x % 4294967296) (b := y / 4294967296) (by omega) (by omega)
  have ba' : x / 4294967296 * (y / 4294967296) < 18446744073709551616 := by omega
  have bb' : x / 4294967296 * (y % 4294967296) < 18446744073709551616 := by omega
  have bc' : x % 4294967296 * (y / 4294967296) < 18446744073709551616 := by omega
  have bh1 : x / 4294967296 * (y / 4294967296) + (x / 4294967296 * (y % 4294967296) + x % 4294967296 * (y % 4294967296) / 4294967296) / 4294967296 < 18446744073709551616 := by omega
  have bh : x / 4294967296 * (y / 4294967296) + (x / 4294967296 * (y % 4294967296) + x % 4294967296 * (y % 4294967296) / 4294967296) / 4294967296 + ((x / 4294967296 * (y % 4294967296) + x % 4294967296 * (y % 4294967296) / 4294967296) % 4294967296 + x % 4294967296 * (y / 4294967296)) / 4294967296 < 18446744073709551616 := by omega
  have Hhi := Lib.hid hhi
  clear hhi
  go_enter Try.func134, Try.ntmps134
  go_wp2
  simp only [maskN x hx, maskN y hy, divN, mulN, addN, wrapN _ bd, wrapN _ bb', wrapN _ bt, maskN _ bt, wrapN _ bc', wrapN _ bw, wrapN _ ba', wrapN _ bh1, wrapN _ bh, wrapM (x * y)]
  rw [Hhi.out]
  go_ret2
  exact ⟨rfl, rfl⟩

theorem len8_at (x : Int) (h0 : 0 ≤ x) (h1 : x ≤ 255) {h : x.toNat < Lib.len8tab.size} : ((Lib.len8tab[x.toNat]'h).toNat : Int) = (Lib.bitLen x.toNat : Int) := by
  have e := Lib.len8_of x h0 h1
  unfold Lib.len8 at e
  rw [getElem?_pos Lib.len8tab x.toNat h, Option.getD_some] at e
  exact e
theorem len_arm (K : Int) (D : Nat) (x y : Int) (k0 : 0 ≤ K) (k1 : K ≤ 56) (h0 : 0 ≤ y) (h1 : y ≤ 255) (he : y.toNat = x.toNat / D) (hs : (Lib.bitLen x.toNat : Int) = K + Lib.bitLen (x.toNat / D)) {h : y.toNat < Lib.len8tab.size} :
    wrap64 (K + wrap64 ((Lib.len8tab[y.toNat]'h).toNat : Int)) = (Lib.bitLen x.toNat : Int) := by
  have l := Lib.bitLen_le8' y h0 h1
  rw [len8_at y h0 h1, he, hs]
  rw [he] at l
  unfold wrap64
  omega
theorem len_arm0 (x : Int) (h0 : 0 ≤ x) (h1 : x ≤ 255) {h : x.toNat < Lib.len8tab.size} : wrap64 (wrap64 ((Lib.len8tab[x.toNat]'h).toNat : Int)) = (Lib.bitLen x.toNat : Int) := by
  have l := Lib.bitLen_le8' x h0 h1
  rw [len8_at x h0 h1]
  unfold wrap64
  omega

set_option maxHeartbeats 4000000 in
set_option maxRecDepth 100000 in
theorem len64_any (x : Int) (w : World) (h0 : 0 ≤ x) (h1 : x ≤ 18446744073709551615) :
    Calls Try.prog 139 #[.int .u64 x] w fun e w' => e = .returned (.int .i64 (Lib.bitLen x.toNat)) ∧ w = w' := by
  have hsz := Lib.len8tab_size
  go_enter Try.func139, Try.ntmps139
  go_wp2
  all_goals (go_ret; refine ⟨congrArg Ending.returned (congrArg (Value.int IntKind.i64) ?_), rfl⟩)
  · exact len_arm 56 72057594037927936 x _ (by omega) (by omega) (by omega) (by omega) (by omega) (by have := Lib.bitLen_shift56 x.toNat (by omega) (by omega); omega)
  · exact len_arm 48 281474976710656 x _ (by omega) (by omega) (by omega) (by omega) (by omega) (by have := Lib.bitLen_shift48 x.toNat (by omega) (by omega); omega)
  · exact len_arm 40 1099511627776 x _ (by omega) (by omega) (by omega) (by omega) (by omega) (by have := Lib.bitLen_shift40 x.toNat (by omega) (by omega); omega)
  · exact len_arm 32 4294967296 x _ (by omega) (by omega) (by omega) (by omega) (by omega) (by have := Lib.bitLen_shift32 x.toNat (by omega) (by omega); omega)
  · exact len_arm 24 16777216 x _ (by omega) (by omega) (by omega) (by omega) (by omega) (by have := Lib.bitLen_shift24 x.toNat (by omega) (by omega); omega)
  · exact len_arm 16 65536 x _ (by omega) (by omega) (by omega) (by omega) (by omega) (by have := Lib.bitLen_shift16 x.toNat (by omega) (by omega); omega)
  · exact len_arm 8 256 x _ (by omega) (by omega) (by omega) (by omega) (by omega) (by have := Lib.bitLen_shift8 x.toNat (by omega) (by omega); omega)
  · exact len_arm0 x (by omega) (by omega)

theorem bitLen_le64 (x : Nat) (h : x < 18446744073709551616) : Lib.bitLen x ≤ 64 := Lib.bitLen_le x 64 (by omega) (by simpa using h)

theorem lz64_any (x : Nat) (w : World) (h1 : x < 18446744073709551616) :
    Calls Try.prog 138 #[.int .u64 (x : Int)] w fun e w' => e = .returned (.int .i64 ((64 - Lib.bitLen x : Nat) : Int)) ∧ w = w' := by
  have l := bitLen_le64 x h1
  have hx : ((x : Int)).toNat = x := Int.toNat_natCast x
  have HX := Lib.hid hx
  clear hx
  go_enter Try.func138, Try.ntmps138
  go_wp2_with (go_at_call 139; refine (len64_any _ _ (by omega) (by omega)).mono ?_; rintro e w' ⟨rfl, rfl⟩)
  go_ret
  refine ⟨congrArg Ending.returned (congrArg (Value.int IntKind.i64) ?_), rfl⟩
  omega

end Go.Proofs.Ytallfmiikjmgaaa
/- A region that draws its order, operation by operation. -/
namespace Go.Proofs.Ytallfmiikjmgaaa
open Go.RowKit

/-! a region that draws, op by op -/
section
variable {P : Program} {ops : List Oper} {Q : Exit → Act → World → Prop} {md : Region.Mode} {S : World → Prop}
theorem takeH (i : Nat) {oi : Oper} {v : Value} {fuel : Nat} {listed : Array Bool} {a : Act} {w : World} (hQ : ∀ c a d v w, Q (.panic c) (a.put d v) w → Q (.panic c) a w) (hs : Region.noSelect ops.toArray = true) (hS : S w)
    (hi : ops[i]? = some oi) (hf : (Region.free md ops.toArray listed i && (Region.ready md ops.toArray listed).contains i) = true)
    (hw : Region.wanted oi (yielded ops.toArray a.tmps) = true) (hv : ∀ w, S w → (execOp a.eval oi).run P w = .ok (.value v) w)
    (h : wpAnyH P md ops.toArray Q S fuel (listed.setIfInBounds i true) (a.put oi.dst v) w) : wpAnyH P md ops.toArray Q S (fuel + 1) listed a w := by
  rw [Bool.and_eq_true] at hf
  exact wpAnyH_take (by rw [List.getElem?_toArray]; exact hi) hs hf.1 hf.2 (fun c a w h => hQ c a _ _ w h) (Or.inl ⟨hw, hv⟩) hS h
theorem skipH (i : Nat) {oi : Oper} {fuel : Nat} {listed : Array Bool} {a : Act} {w : World} (hQ : ∀ c a d v w, Q (.panic c) (a.put d v) w → Q (.panic c) a w) (hs : Region.noSelect ops.toArray = true) (hS : S w)
    (hi : ops[i]? = some oi) (hf : (Region.free md ops.toArray listed i && (Region.ready md ops.toArray listed).contains i) = true)
    (hw : Region.wanted oi (yielded ops.toArray a.tmps) = false)
    (h : wpAnyH P md ops.toArray Q S fuel (listed.setIfInBounds i true) (a.put oi.dst undef) w) : wpAnyH P md ops.toArray Q S (fuel + 1) listed a w := by
  rw [Bool.and_eq_true] at hf
  exact wpAnyH_take (by rw [List.getElem?_toArray]; exact hi) hs hf.1 hf.2 (fun c a w h => hQ c a _ _ w h) (Or.inr ⟨hw, rfl⟩) hS h
theorem stepH (i : Nat) {oi : Oper} {fuel : Nat} {listed : Array Bool} {a : Act} {w : World} (hr : Region.ready md ops.toArray listed = [i]) (hi : ops[i]? = some oi)
    (hw : Region.wanted oi (yielded ops.toArray a.tmps) = true)
    (h : ∀ K' : Act → World → Prop, Shut (∀ a w, S w → (S w → wpAnyH P md ops.toArray Q S fuel (listed.setIfInBounds i true) a w) → K' a w) → Oper.wp P oi a w K' Q) : wpAnyH P md ops.toArray Q S (fuel + 1) listed a w :=
  wpAnyH_ready hr (by simp) (AllReadyH.cons (by rw [List.getElem?_toArray]; exact hi) (fun K hK => by rw [if_pos hw]; exact h K hK) AllReadyH.nil)
end

end Go.Proofs.Ytallfmiikjmgaaa
/- Whole blocks that are held together, and what lies below a bound. -/
namespace Go.Proofs.Ytallfmiikjmgaaa
open Go.RowKit

def HR (w w1 : World) (rs : List (Nat × Array Value × TypeId)) : Prop := (∀ r ∈ rs, Row w1 r.1 r.2.1 r.2.2) ∧ Below w.heap.size w w1
section
variable {w w1 w2 : World} {rs : List (Nat × Array Value × TypeId)}
theorem HR.refl (w : World) : HR w w [] := ⟨(fun r hr => by cases hr), Below.refl _ _⟩
theorem HR.drew (h : HR w w1 rs) : HR w w1.drew rs := ⟨fun r hr => (h.1 r hr).drew, bDrew h.2⟩
theorem HR.drewN (h : HR w w1 rs) (n : Nat) : HR w (w1.drewN n) rs := ⟨fun r hr => (h.1 r hr).drewN n, bDrewN h.2 n⟩
theorem HR.like (h : HR w w1 rs) (h1 : w2.heap = w1.heap) (h2 : w2.os = w1.os) (h3 : w2.tape = w1.tape) (h4 : w2.output = w1.output) : HR w w2 rs :=
  ⟨fun r hr => (congrArg (fun a : Array Obj => a[r.1]?) h1).trans (h.1 r hr), ⟨h2.trans h.2.os, h3.trans h.2.tape, h4.trans h.2.output, by rw [h1]; exact h.2.size, fun k hk => (congrArg (fun a : Array Obj => a[k]?) h1).trans (h.2.block k hk)⟩⟩
theorem HR.sub {qs : List (Nat × Array Value × TypeId)} (h : HR w w1 rs) (hs : ∀ r ∈ qs, r ∈ rs) : HR w w1 qs := ⟨fun r hr => h.1 r (hs r hr), h.2⟩
theorem HR.next (h : HR w w1 rs) (hb : Below w1.heap.size w1 w2) : HR w w2 rs := ⟨fun r hr => (h.1 r hr).below hb (h.1 r hr).lt, bThen h.2 hb h.2.size⟩
theorem HR.alloc (h : HR w w1 rs) (o : Obj) : HR w (w1.alloc o) rs := ⟨fun r hr => (h.1 r hr).alloc o, bAlloc h.2 o⟩
theorem HR.new (h : HR w w1 rs) (cs : Array Value) (t : TypeId) : HR w (w1.alloc (.cells cs t)) ((w1.heap.size, cs, t) :: rs) :=
  ⟨fun r hr => by
    rcases List.mem_cons.1 hr with rfl | hr
    · exact Row.new _ _ _
    · exact (h.1 r hr).alloc _, bAlloc h.2 _⟩
theorem HR.row (h : HR w w1 rs) {b : Nat} {cs : Array Value} {t : TypeId} (hr : (b, cs, t) ∈ rs) : Row w1 b cs t := h.1 _ hr
theorem HR.cell (h : HR w w1 rs) {b : Nat} {cs : Array Value} {t : TypeId} (hr : (b, cs, t) ∈ rs) (i : Nat) {v : Value} (hv : cs[i]? = some v) : w1.cell? ⟨b, i, none⟩ = some v := (h.1 _ hr).cell i hv
theorem HR.free (h : HR w w1 rs) {b : Nat} {cs : Array Value} {t : TypeId} (hr : (b, cs, t) ∈ rs) (i : Nat) : w1.frozen? ⟨b, i, none⟩ = false := (h.1 _ hr).free i
theorem HR.lt (h : HR w w1 rs) {b : Nat} {cs : Array Value} {t : TypeId} (hr : (b, cs, t) ∈ rs) : b < w1.heap.size := (h.1 _ hr).lt
theorem HR.tail {r : Nat × Array Value × TypeId} (h : HR w w1 (r :: rs)) : HR w w1 rs := ⟨fun q hq => h.1 q (List.mem_cons_of_mem _ hq), h.2⟩
theorem HR.add (h : HR w w1 rs) {b : Nat} {cs : Array Value} {t : TypeId} (hr : Row w1 b cs t) : HR w w1 ((b, cs, t) :: rs) := ⟨fun q hq => by
  rcases List.mem_cons.1 hq with rfl | hq
  · exact hr
  · exact h.1 q hq, h.2⟩
theorem HR.far (h : HR w w1 rs) : (∀ r ∈ rs, r.1 ≠ w1.heap.size) ∧ w.heap.size ≤ w1.heap.size := ⟨fun r hr => Nat.ne_of_lt (h.1 r hr).lt, h.2.size⟩
theorem HR.other (h : HR w w1 rs) {D o : Nat} {v : Value} (hne : ∀ r ∈ rs, r.1 ≠ D) (hD : w.heap.size ≤ D) : HR w (w1.setCell ⟨D, o, none⟩ v) rs := ⟨fun r hr => (h.1 r hr).other (hne r hr), bSet h.2 hD⟩
theorem HR.put {D : Nat} {cs : Array Value} {t : TypeId} (h : HR w w1 ((D, cs, t) :: rs)) (hne : ∀ r ∈ rs, r.1 ≠ D) (hD : w.heap.size ≤ D) (o : Nat) (v : Value) : HR w (w1.setCell ⟨D, o, none⟩ v) ((D, cs.setIfInBounds o v, t) :: rs) :=
  (h.tail.other hne hD).add ((h.1 _ (List.mem_cons_self ..)).set o v)
end

end Go.Proofs.Ytallfmiikjmgaaa
