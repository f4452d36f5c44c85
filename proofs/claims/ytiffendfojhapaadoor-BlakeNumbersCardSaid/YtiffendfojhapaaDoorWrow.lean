import Derived.Test.YtiffendfojhapaaDoorProg
import Derived.WalkKit
import Derived.KernelRfl
import Derived.Deep.QuietTactic
import Derived.BigQuiet
import Derived.Deep.Draws
import Derived.WalkSpells
import Derived.WalkLawsBesides
import Derived.Laws.Bits64
import Derived.Laws.Bits64b
import Derived.Laws.BitsAllLaws
import Derived.Lib.Hide
import Derived.Lib.Mul64
import Derived.Lib.BitFns
import Derived.Lib.ItoaNum
import Derived.Lib.Strings
import Derived.Lib.Slices
import Derived.Lib.Small
import Derived.Lib.Walk
import Derived.Below
import Derived.Laws.Rows
import Derived.RowKit
/- Whole blocks of memory, and what lies below a bound. -/
namespace Go.Proofs.YtiffendfojhapaaDoor
open Go.RowKit

theorem bDrewN {B : Nat} {a w : World} (h : Below B a w) (n : Nat) : Below B a (w.drewN n) := ⟨h.os, h.tape, h.output, h.size, h.block⟩
theorem bDrew {B : Nat} {a w : World} (h : Below B a w) : Below B a w.drew := ⟨h.os, h.tape, h.output, h.size, h.block⟩
theorem bSet {B : Nat} {a w : World} (h : Below B a w) {b o : Nat} (hp : B ≤ b) {u : Value} : Below B a (w.setCell ⟨b, o, none⟩ u) := h.setCell hp u
theorem bAlloc {w W : World} (h : Below w.heap.size w W) (o : Obj) : Below w.heap.size w (W.alloc o) := h.alloc h.size o

theorem bcell {W w1 : World} (hb : Below W.heap.size W w1) : (∀ b o, b < W.heap.size → w1.cell? ⟨b, o, none⟩ = W.cell? ⟨b, o, none⟩) ∧ (∀ b o, b < W.heap.size → w1.frozen? ⟨b, o, none⟩ = W.frozen? ⟨b, o, none⟩) :=
  ⟨fun b o h => hb.cell (p := ⟨b, o, none⟩) h, fun b o h => hb.frozen (p := ⟨b, o, none⟩) h⟩

/-! whole blocks -/
def Row (w : World) (b : Nat) (cs : Array Value) (t : TypeId) : Prop := w.heap[b]? = some (.cells cs t (0, 0))
theorem Row.lt {w : World} {b : Nat} {cs : Array Value} {t : TypeId} (h : Row w b cs t) : b < w.heap.size := (Array.getElem?_eq_some_iff.1 h).1
theorem Row.cell {w : World} {b : Nat} {cs : Array Value} {t : TypeId} (h : Row w b cs t) (j : Nat) {v : Value} (hj : cs[j]? = some v) : w.cell? ⟨b, j, none⟩ = some v := (cell_of_row w b j cs t (0, 0) h).trans hj
theorem Row.free {w : World} {b : Nat} {cs : Array Value} {t : TypeId} (h : Row w b cs t) (j : Nat) : w.frozen? ⟨b, j, none⟩ = false := frozen_of_row w b j cs t h
theorem Row.new (w : World) (cs : Array Value) (t : TypeId) : Row (w.alloc (.cells cs t)) w.heap.size cs t := heap_alloc_new w _
theorem Row.new1 (w : World) (o : Obj) (cs : Array Value) (t : TypeId) : Row ((w.alloc o).alloc (.cells cs t)) (w.heap.size + 1) cs t := by have h := Row.new (w.alloc o) cs t; rw [World.size_alloc] at h; exact h
theorem Row.alloc {w : World} {b : Nat} {cs : Array Value} {t : TypeId} (h : Row w b cs t) (o : Obj) : Row (w.alloc o) b cs t := (heap_alloc_old w o h.lt).trans h
theorem Row.below {B : Nat} {w w' : World} {b : Nat} {cs : Array Value} {t : TypeId} (h : Row w b cs t) (hb : Below B w w') (hB : b < B) : Row w' b cs t := (hb.block b hB).trans h
theorem Row.drewN {w : World} {b : Nat} {cs : Array Value} {t : TypeId} (h : Row w b cs t) (n : Nat) : Row (w.drewN n) b cs t := h
theorem Row.drew {w : World} {b : Nat} {cs : Array Value} {t : TypeId} (h : Row w b cs t) : Row w.drew b cs t := h
theorem Row.other {w : World} {b c o : Nat} {cs : Array Value} {t : TypeId} {v : Value} (h : Row w b cs t) (hne : b ≠ c) : Row (w.setCell ⟨c, o, none⟩ v) b cs t := (heap_setCell_other w ⟨c, o, none⟩ b v hne).trans h
theorem Row.set {w : World} {b : Nat} {cs : Array Value} {t : TypeId} (h : Row w b cs t) (i : Nat) (v : Value) : Row (w.setCell ⟨b, i, none⟩ v) b (cs.setIfInBounds i v) t := heap_setCell_same w b i cs t v h
theorem Row.set2 {w : World} {b : Nat} {a0 a1 v0 v1 : Value} {t : TypeId} (h : Row w b #[a0, a1] t) : Row ((w.setCell ⟨b, 0, none⟩ v0).setCell ⟨b, 1, none⟩ v1) b #[v0, v1] t := (h.set 0 v0).set 1 v1
theorem Row.set3 {w : World} {b : Nat} {a0 a1 a2 v0 v1 v2 : Value} {t : TypeId} (h : Row w b #[a0, a1, a2] t) : Row (((w.setCell ⟨b, 0, none⟩ v0).setCell ⟨b, 1, none⟩ v1).setCell ⟨b, 2, none⟩ v2) b #[v0, v1, v2] t := ((h.set 0 v0).set 1 v1).set 2 v2

theorem bThen {B : Nat} {w W w1 : World} (h : Below B w W) (hb : Below W.heap.size W w1) (hB : B ≤ W.heap.size) : Below B w w1 := h.trans (hb.mono hB)
theorem Row.newAt {W : World} {b : Nat} (cs : Array Value) (t : TypeId) (h : W.heap.size = b) : Row (W.alloc (.cells cs t)) b cs t := by subst h; exact Row.new _ _ _

end Go.Proofs.YtiffendfojhapaaDoor
