import Derived.Test.YtkfimfjjmdjbdaaUa
import Derived.Test.YtkfimfjjmdjbdaaProg
import Derived.WalkKit
import Derived.KernelRfl
import Derived.Deep.QuietTactic
import Derived.BigQuiet
import Derived.Deep.Draws
import Derived.WalkSpells
import Derived.WalkLawsBesides
import Derived.Laws.Bits64
import Derived.Laws.Bits64b
import Derived.Laws.BitsAllLaws
import Derived.Lib.Hide
import Derived.Lib.Mul64
import Derived.Lib.BitFns
import Derived.Lib.ItoaNum
import Derived.Lib.Strings
import Derived.Lib.Slices
import Derived.Lib.Small
import Derived.Lib.Walk
import Derived.Below
import Derived.Laws.Rows
import Derived.RowKit
import Derived.Deep.RegionWith
import Derived.Deep.RegionHeld3
import Derived.Deep.CutBlock
import Derived.Deep.DeepCutAuto
import Derived.BigRegion
set_option linter.unusedVariables false
set_option linter.unusedSimpArgs false
set_option linter.unusedSectionVars false
/- Points as pairs of numbers: the sum, multiples from the highest bit on, whether a pair is a point. -/
namespace Obol

/-- A thing behind a door that the kernel doesn't open. -/
noncomputable def shut {α : Type} (x : α) : { y : α // y = x } := Classical.choice ⟨⟨x, rfl⟩⟩
def mulQ (a b : Nat) : Nat := a * b % R
def addQ (a b : Nat) : Nat := (a + b) % R
def subQ (a b : Nat) : Nat := (a % R + R - b % R) % R
noncomputable def mulR : Nat → Nat → Nat := (shut mulQ).1
noncomputable def addR : Nat → Nat → Nat := (shut addQ).1
noncomputable def subR : Nat → Nat → Nat := (shut subQ).1
noncomputable def invR : Nat → Nat := (shut (fun b : Nat => b ^ (R - 2) % R)).1
theorem mulR_eq : mulR = mulQ := (shut mulQ).2
theorem addR_eq : addR = addQ := (shut addQ).2
theorem subR_eq : subR = subQ := (shut subQ).2
theorem invR_eq (b : Nat) : invR b = b ^ (R - 2) % R := congrFun (shut (fun b : Nat => b ^ (R - 2) % R)).2 b
noncomputable def overR (a b : Nat) : Nat := mulR a (invR b)

/-- A pair's point. -/
def Pnt.n (p : Pt) : Nat × Nat := (p.x.val, p.y.val)
theorem Pnt.n_inj {p q : Pt} (h : p.n = q.n) : p = q := by
  have h1 := congrArg Prod.fst h
  have h2 := congrArg Prod.snd h
  exact Pnt.ext (Fin.ext h1) (Fin.ext h2)

noncomputable def isN (p : Nat × Nat) : Bool :=
  decide (p.1 < R) && decide (p.2 < R) && decide (subR (mulR p.2 p.2) (mulR p.1 p.1) = addR 1 (mulR 439 (mulR (mulR p.1 p.1) (mulR p.2 p.2))))

def isQ (p : Nat × Nat) : Bool :=
  decide (p.1 < R) && decide (p.2 < R) && decide (subQ (mulQ p.2 p.2) (mulQ p.1 p.1) = addQ 1 (mulQ 439 (mulQ (mulQ p.1 p.1) (mulQ p.2 p.2))))
theorem isN_eq (p : Nat × Nat) : isN p = isQ p := by unfold isN isQ; rw [mulR_eq, addR_eq, subR_eq]

def zeroN : Nat × Nat := (0, 1)
theorem zero_n : (Pnt.zero : Pt).n = zeroN := by
  show ((0 : Fr).val, (1 : Fr).val) = (0, 1)
  rw [val_zero, val_one]

theorem lt_mod {a : Nat} (h : a < R) : a % R = a := Nat.mod_eq_of_lt h

/-- The field's words as numbers'. -/
theorem mulR_val (a b : Fr) : mulR a.val b.val = (a * b).val := by rw [mulR_eq]; rfl
theorem addR_val (a b : Fr) : addR a.val b.val = (a + b).val := by rw [addR_eq]; rfl
theorem subR_val (a b : Fr) : subR a.val b.val = (a - b).val := by
  rw [val_sub, subR_eq, subQ, lt_mod a.isLt, lt_mod b.isLt]
  congr 1
  have := a.isLt
  have := b.isLt
  omega
theorem d_val : K.d.val = 439 := by decide +kernel
theorem one_val : (1 : Fr).val = 1 := val_one
theorem overR_val (a b : Fr) : overR a.val b.val = (a * K.inv b).val := by
  rw [overR, invR_eq, ← finv_val]
  exact mulR_val a (finv b)

theorem on_iff (x y : Fr) : K.On x y ↔ isN (x.val, y.val) = true := by
  have e : isN (x.val, y.val) = decide ((y * y - x * x).val = (1 + K.d * (x * x * (y * y))).val) := by
    unfold isN
    rw [decide_eq_true x.isLt, decide_eq_true y.isLt, Bool.true_and, Bool.true_and]
    rw [mulR_val, mulR_val, subR_val, mulR_val, ← d_val, mulR_val]
    rw [← one_val, addR_val]
  rw [e, decide_eq_true_eq]
  unfold Ground.On
  have e2 : 1 + K.d * (x * x) * (y * y) = 1 + K.d * (x * x * (y * y)) := by grind
  rw [e2]
  exact ⟨fun h => by rw [h], fun h => Fin.ext h⟩

/-- What is a point's pair. -/
theorem isN_pt {p : Nat × Nat} (h : isN p = true) : ∃ q : Pt, q.n = p := by
  have h' := h
  unfold isN at h'
  simp only [Bool.and_eq_true, decide_eq_true_eq] at h'
  refine ⟨⟨⟨p.1, h'.1.1⟩, ⟨p.2, h'.1.2⟩, (on_iff _ _).2 h⟩, rfl⟩
theorem pt_isN (p : Pt) : isN p.n = true := (on_iff _ _).1 p.on

noncomputable def sureN (p : Nat × Nat) : Nat × Nat := if isN p then p else zeroN

noncomputable def sumN (p q : Nat × Nat) : Nat × Nat :=
  let x := mulR p.1 q.1
  let y := mulR p.2 q.2
  let k := mulR 439 (mulR x y)
  (overR (addR (mulR p.1 q.2) (mulR p.2 q.1)) (addR 1 k), overR (addR x y) (subR 1 k))

theorem sum_n (p q : Pt) : sumN p.n q.n = (p.add q).n := by
  unfold sumN Pnt.n
  simp only
  rw [mulR_val, mulR_val, mulR_val, mulR_val, mulR_val, ← d_val, mulR_val, ← one_val, addR_val, addR_val, addR_val, subR_val, overR_val, overR_val]
  unfold Pnt.add Pnt.dx Pnt.dy
  simp only
  have e1 : K.d * (p.x * q.x * (p.y * q.y)) = K.d * (p.x * q.x * p.y * q.y) := by grind
  have e2 : p.x * q.x + p.y * q.y = p.y * q.y + p.x * q.x := by grind
  rw [e1, e2]

/-- Multiples, from the highest bit on. -/
noncomputable def timesN (a : Nat × Nat) (k : Nat) : Nat → Nat × Nat → Nat × Nat
  | 0, out => out
  | j + 1, out =>
    let o := if out = zeroN then out else sumN out out
    timesN a k j (if k / 2 ^ j % 2 = 1 then sumN o a else o)

theorem sum_zero (p : Pt) : (Pnt.zero : Pt).add p = p := Pnt.zero_add p

theorem times_step (p : Pt) (k j : Nat) (o : Pt) (ho : o = Pnt.smul (k / 2 ^ (j + 1)) p) :
    (if k / 2 ^ j % 2 = 1 then sumN (if o.n = zeroN then o.n else sumN o.n o.n) p.n else (if o.n = zeroN then o.n else sumN o.n o.n)) = (Pnt.smul (k / 2 ^ j) p).n := by
  have hd : (if o.n = zeroN then o.n else sumN o.n o.n) = (o.add o).n := by
    split
    · rename_i h
      rw [← zero_n] at h
      rw [Pnt.n_inj h, sum_zero]
    · exact sum_n o o
  have hk : k / 2 ^ j = k / 2 ^ (j + 1) + k / 2 ^ (j + 1) + k / 2 ^ j % 2 := by
    have : k / 2 ^ (j + 1) = k / 2 ^ j / 2 := by rw [Nat.pow_succ, Nat.div_div_eq_div_mul]
    rw [this]
    omega
  rw [hd]
  by_cases hb : k / 2 ^ j % 2 = 1
  · rw [if_pos hb, sum_n]
    conv => rhs; rw [hk, hb, Pnt.smul_add, Pnt.smul_add, Pnt.smul_one, ← ho]
  · have : k / 2 ^ j % 2 = 0 := by omega
    rw [if_neg hb]
    conv => rhs; rw [hk, this, Nat.add_zero, Pnt.smul_add, ← ho]

theorem times_from (p : Pt) (k : Nat) : ∀ (j : Nat) (o : Pt), o = Pnt.smul (k / 2 ^ j) p → timesN p.n k j o.n = (Pnt.smul k p).n
  | 0, o, ho => by
    rw [Nat.pow_zero, Nat.div_one] at ho
    rw [timesN, ho]
  | j + 1, o, ho => by
    unfold timesN
    simp only
    rw [times_step p k j o ho]
    exact times_from p k j _ rfl

theorem times_n (p : Pt) (k : Nat) (hk : k < 2 ^ 64) : timesN p.n k 64 zeroN = (Pnt.smul k p).n := by
  rw [← zero_n]
  exact times_from p k 64 Pnt.zero (by rw [Nat.div_eq_of_lt hk]; rfl)

/-! quick ones, for the kernel -/
def sumQ (p q : Nat × Nat) : Nat × Nat :=
  let x := mulQ p.1 q.1
  let y := mulQ p.2 q.2
  let k := mulQ 439 (mulQ x y)
  (mulQ (addQ (mulQ p.1 q.2) (mulQ p.2 q.1)) (powm R 64 (addQ 1 k) (R - 2)), mulQ (addQ x y) (powm R 64 (subQ 1 k) (R - 2)))
theorem sumQ_eq (p q : Nat × Nat) : sumQ p q = sumN p q := by
  unfold sumQ sumN overR
  simp only
  rw [invR_eq, invR_eq, powm_eq R 64 _ _ (by decide +kernel), powm_eq R 64 _ _ (by decide +kernel), mulR_eq, addR_eq, subR_eq]

def timesQ (a : Nat × Nat) (k : Nat) : Nat → Nat × Nat → Nat × Nat
  | 0, out => out
  | j + 1, out => timesQ a k j (if k / 2 ^ j % 2 = 1 then sumQ (sumQ out out) a else sumQ out out)
theorem timesQ_from (p : Pt) (k : Nat) : ∀ (j : Nat) (o : Pt), o = Pnt.smul (k / 2 ^ j) p → timesQ p.n k j o.n = (Pnt.smul k p).n
  | 0, o, ho => by
    rw [Nat.pow_zero, Nat.div_one] at ho
    rw [timesQ, ho]
  | j + 1, o, ho => by
    unfold timesQ
    have h := times_step p k j o ho
    have hd : (if o.n = zeroN then o.n else sumN o.n o.n) = sumN o.n o.n := by
      split
      · rename_i e
        rw [← zero_n] at e
        rw [Pnt.n_inj e, sum_n, sum_zero]
      · rfl
    rw [hd] at h
    rw [sumQ_eq, sumQ_eq, h]
    exact timesQ_from p k j _ rfl
theorem timesQ_n (p : Pt) (k b : Nat) (hk : k < 2 ^ b) : timesQ p.n k b zeroN = (Pnt.smul k p).n := by
  rw [← zero_n]
  exact timesQ_from p k b Pnt.zero (by rw [Nat.div_eq_of_lt hk]; rfl)

/-- The sum of two points X / Z, Y / Z. -/
noncomputable def togN (a b : Nat × Nat × Nat) : Nat × Nat × Nat :=
  let z := mulR a.2.2 b.2.2
  let z2 := mulR z z
  let x := mulR a.1 b.1
  let y := mulR a.2.1 b.2.1
  let k := mulR 439 (mulR x y)
  let up := addR z2 k
  let down := subR z2 k
  let cross := addR (mulR a.1 b.2.1) (mulR a.2.1 b.1)
  (mulR (mulR z cross) down, mulR (mulR z (addR x y)) up, mulR up down)

/-- What is handed in, as a point. -/
noncomputable def Pnt.of (p : Nat × Nat) : Pt := if h : isN p = true then ⟨⟨p.1, by unfold isN at h; simp only [Bool.and_eq_true, decide_eq_true_eq] at h; exact h.1.1⟩, ⟨p.2, by unfold isN at h; simp only [Bool.and_eq_true, decide_eq_true_eq] at h; exact h.1.2⟩, (on_iff _ _).2 h⟩ else Pnt.zero
theorem sure_n (p : Nat × Nat) : sureN p = (Pnt.of p).n := by
  unfold sureN Pnt.of
  by_cases h : isN p = true
  · rw [if_pos h, dif_pos h]
    rfl
  · rw [if_neg h, dif_neg h, zero_n]
theorem of_n (p : Pt) : Pnt.of p.n = p := by
  refine Pnt.n_inj ?_
  rw [← sure_n, sureN, if_pos (pt_isN p)]

/-- Three numbers that stand for a point. -/
structure Sc (t : Nat × Nat × Nat) (p : Pt) : Prop where
  x1 : t.1 < R
  y1 : t.2.1 < R
  z1 : t.2.2 < R
  sc : Scaled (⟨t.1, x1⟩ : Fr) ⟨t.2.1, y1⟩ ⟨t.2.2, z1⟩ p

theorem mulR_lt (a b : Nat) : mulR a b < R := by rw [mulR_eq]; exact Nat.mod_lt _ R_pos
theorem Sc.tog {a b : Nat × Nat × Nat} {p q : Pt} (h : Sc a p) (h' : Sc b q) : Sc (togN a b) (p.add q) := by
  refine ⟨mulR_lt _ _, mulR_lt _ _, mulR_lt _ _, ?_⟩
  have e := h.sc.tog h'.sc
  generalize hx : (⟨a.1, h.x1⟩ : Fr) = x at e
  generalize hy : (⟨a.2.1, h.y1⟩ : Fr) = y at e
  generalize hz : (⟨a.2.2, h.z1⟩ : Fr) = z at e
  generalize hx' : (⟨b.1, h'.x1⟩ : Fr) = x' at e
  generalize hy' : (⟨b.2.1, h'.y1⟩ : Fr) = y' at e
  generalize hz' : (⟨b.2.2, h'.z1⟩ : Fr) = z' at e
  have ha : a = (x.val, y.val, z.val) := by rw [← hx, ← hy, ← hz]
  have hb : b = (x'.val, y'.val, z'.val) := by rw [← hx', ← hy', ← hz']
  have ht : togN a b = ((z * z' * (x * y' + y * x') * (z * z' * (z * z') - K.d * (x * x' * (y * y')))).val, (z * z' * (x * x' + y * y') * (z * z' * (z * z') + K.d * (x * x' * (y * y')))).val,
      ((z * z' * (z * z') + K.d * (x * x' * (y * y'))) * (z * z' * (z * z') - K.d * (x * x' * (y * y')))).val) := by
    rw [ha, hb]
    unfold togN
    simp only [mulR_val, addR_val, ← d_val, subR_val]
  have h1 := congrArg (·.1) ht
  have h2 := congrArg (·.2.1) ht
  have h3 := congrArg (·.2.2) ht
  simp only at h1 h2 h3
  simp only [h1, h2, h3]
  exact e
theorem Sc.one (p : Pt) : Sc (p.x.val, p.y.val, 1) p := ⟨p.x.isLt, p.y.isLt, (by show 1 < R; decide +kernel), by
  have h := Scaled.one p
  have e : (⟨1, by decide +kernel⟩ : Fr) = 1 := Fin.ext (by rw [val_one])
  show Scaled p.x p.y (⟨1, _⟩ : Fr) p
  rw [e]
  exact h⟩
theorem Sc.zero : Sc (0, 1, 1) Pnt.zero := by
  have h := Sc.one Pnt.zero
  have e := zero_n
  unfold Pnt.n zeroN at e
  have e1 := congrArg Prod.fst e
  have e2 := congrArg Prod.snd e
  simp only at e1 e2
  rw [e1, e2] at h
  exact h
theorem inv_val (z : Fr) : invR z.val = (K.inv z).val := by
  have h : K.inv z = finv z := rfl
  rw [invR_eq, h, finv_val]
theorem Sc.out {t : Nat × Nat × Nat} {p : Pt} (h : Sc t p) : (mulR t.1 (invR t.2.2), mulR t.2.1 (invR t.2.2)) = p.n := by
  obtain ⟨e1, e2⟩ := h.sc.out
  have hv : invR t.2.2 = _ := inv_val (⟨t.2.2, h.z1⟩ : Fr)
  have hx : mulR t.1 _ = _ := mulR_val (⟨t.1, h.x1⟩ : Fr) (K.inv (⟨t.2.2, h.z1⟩ : Fr))
  have hy : mulR t.2.1 _ = _ := mulR_val (⟨t.2.1, h.y1⟩ : Fr) (K.inv (⟨t.2.2, h.z1⟩ : Fr))
  rw [hv]
  unfold Pnt.n
  rw [← e1, ← e2, ← hx, ← hy]

/-- What is known ahead of each round of a multiple: what is gathered, what is added, how often. -/
structure MulInv (a : Pt) (k : Nat) (o b : Nat × Nat × Nat) (en : Nat) : Prop where
  ex : ∃ p q : Pt, Sc o p ∧ Sc b q ∧ p.add (Pnt.smul en q) = Pnt.smul k a
theorem MulInv.start (a : Pt) (k : Nat) : MulInv a k (0, 1, 1) (a.x.val, a.y.val, 1) k := ⟨Pnt.zero, a, Sc.zero, Sc.one a, Pnt.zero_add _⟩
theorem smul_half (en : Nat) (q : Pt) : Pnt.smul en q = (Pnt.smul (en % 2) q).add (Pnt.smul (en / 2) (q.add q)) := by
  have h : q.add q = Pnt.smul 2 q := by
    show _ = (Pnt.smul 1 q).add q
    rw [Pnt.smul_one]
  rw [h, ← Pnt.smul_mul, ← Pnt.smul_add]
  congr 1
  omega
theorem MulInv.one {a : Pt} {k : Nat} {o b : Nat × Nat × Nat} {en : Nat} (h : MulInv a k o b en) (ho : en % 2 = 1) : MulInv a k (togN o b) (togN b b) (en / 2) := by
  obtain ⟨p, q, hp, hq, e⟩ := h.ex
  refine ⟨p.add q, q.add q, hp.tog hq, hq.tog hq, ?_⟩
  rw [smul_half, ho, Pnt.smul_one, ← Pnt.add_assoc] at e
  exact e
theorem MulInv.zero {a : Pt} {k : Nat} {o b : Nat × Nat × Nat} {en : Nat} (h : MulInv a k o b en) (ho : en % 2 = 0) : MulInv a k o (togN b b) (en / 2) := by
  obtain ⟨p, q, hp, hq, e⟩ := h.ex
  refine ⟨p, q.add q, hp, hq.tog hq, ?_⟩
  rw [smul_half, ho] at e
  have e : p.add (Pnt.zero.add (Pnt.smul (en / 2) (q.add q))) = Pnt.smul k a := e
  rwa [Pnt.zero_add] at e
theorem MulInv.done {a : Pt} {k : Nat} {o b : Nat × Nat × Nat} (h : MulInv a k o b 0) : (mulR o.1 (invR o.2.2), mulR o.2.1 (invR o.2.2)) = (Pnt.smul k a).n := by
  obtain ⟨p, q, hp, hq, e⟩ := h.ex
  have e : p.add Pnt.zero = Pnt.smul k a := e
  rw [Pnt.add_zero] at e
  rw [← e]
  exact hp.out

/-- So often whatever. -/
noncomputable def smulN : Nat × Nat → Nat → Nat × Nat := (shut fun (p : Nat × Nat) (k : Nat) => (Pnt.smul k (Pnt.of p)).n).1
theorem smulN_eq (p : Nat × Nat) (k : Nat) : smulN p k = (Pnt.smul k (Pnt.of p)).n := congrFun (congrFun (shut fun (p : Nat × Nat) (k : Nat) => (Pnt.smul k (Pnt.of p)).n).2 p) k

end Obol
/- Whole blocks of memory, and what lies below a bound. -/
namespace Go.Proofs.Ytkfimfjjmdjbdaa
open Go.RowKit

theorem bDrewN {B : Nat} {a w : World} (h : Below B a w) (n : Nat) : Below B a (w.drewN n) := ⟨h.os, h.tape, h.output, h.size, h.block⟩
theorem bDrew {B : Nat} {a w : World} (h : Below B a w) : Below B a w.drew := ⟨h.os, h.tape, h.output, h.size, h.block⟩
theorem bSet {B : Nat} {a w : World} (h : Below B a w) {b o : Nat} (hp : B ≤ b) {u : Value} : Below B a (w.setCell ⟨b, o, none⟩ u) := h.setCell hp u
theorem bAlloc {w W : World} (h : Below w.heap.size w W) (o : Obj) : Below w.heap.size w (W.alloc o) := h.alloc h.size o

theorem bcell {W w1 : World} (hb : Below W.heap.size W w1) : (∀ b o, b < W.heap.size → w1.cell? ⟨b, o, none⟩ = W.cell? ⟨b, o, none⟩) ∧ (∀ b o, b < W.heap.size → w1.frozen? ⟨b, o, none⟩ = W.frozen? ⟨b, o, none⟩) :=
  ⟨fun b o h => hb.cell (p := ⟨b, o, none⟩) h, fun b o h => hb.frozen (p := ⟨b, o, none⟩) h⟩

/-! whole blocks -/
def Row (w : World) (b : Nat) (cs : Array Value) (t : TypeId) : Prop := w.heap[b]? = some (.cells cs t (0, 0))
theorem Row.lt {w : World} {b : Nat} {cs : Array Value} {t : TypeId} (h : Row w b cs t) : b < w.heap.size := (Array.getElem?_eq_some_iff.1 h).1
theorem Row.cell {w : World} {b : Nat} {cs : Array Value} {t : TypeId} (h : Row w b cs t) (j : Nat) {v : Value} (hj : cs[j]? = some v) : w.cell? ⟨b, j, none⟩ = some v := (cell_of_row w b j cs t (0, 0) h).trans hj
theorem Row.free {w : World} {b : Nat} {cs : Array Value} {t : TypeId} (h : Row w b cs t) (j : Nat) : w.frozen? ⟨b, j, none⟩ = false := frozen_of_row w b j cs t h
theorem Row.new (w : World) (cs : Array Value) (t : TypeId) : Row (w.alloc (.cells cs t)) w.heap.size cs t := heap_alloc_new w _
theorem Row.new1 (w : World) (o : Obj) (cs : Array Value) (t : TypeId) : Row ((w.alloc o).alloc (.cells cs t)) (w.heap.size + 1) cs t := by have h := Row.new (w.alloc o) cs t; rw [World.size_alloc] at h; exact h
theorem Row.alloc {w : World} {b : Nat} {cs : Array Value} {t : TypeId} (h : Row w b cs t) (o : Obj) : Row (w.alloc o) b cs t := (heap_alloc_old w o h.lt).trans h
theorem Row.below {B : Nat} {w w' : World} {b : Nat} {cs : Array Value} {t : TypeId} (h : Row w b cs t) (hb : Below B w w') (hB : b < B) : Row w' b cs t := (hb.block b hB).trans h
theorem Row.drewN {w : World} {b : Nat} {cs : Array Value} {t : TypeId} (h : Row w b cs t) (n : Nat) : Row (w.drewN n) b cs t := h
theorem Row.drew {w : World} {b : Nat} {cs : Array Value} {t : TypeId} (h : Row w b cs t) : Row w.drew b cs t := h
theorem Row.other {w : World} {b c o : Nat} {cs : Array Value} {t : TypeId} {v : Value} (h : Row w b cs t) (hne : b ≠ c) : Row (w.setCell ⟨c, o, none⟩ v) b cs t := (heap_setCell_other w ⟨c, o, none⟩ b v hne).trans h
theorem Row.set {w : World} {b : Nat} {cs : Array Value} {t : TypeId} (h : Row w b cs t) (i : Nat) (v : Value) : Row (w.setCell ⟨b, i, none⟩ v) b (cs.setIfInBounds i v) t := heap_setCell_same w b i cs t v h
theorem Row.set2 {w : World} {b : Nat} {a0 a1 v0 v1 : Value} {t : TypeId} (h : Row w b #[a0, a1] t) : Row ((w.setCell ⟨b, 0, none⟩ v0).setCell ⟨b, 1, none⟩ v1) b #[v0, v1] t := (h.set 0 v0).set 1 v1
theorem Row.set3 {w : World} {b : Nat} {a0 a1 a2 v0 v1 v2 : Value} {t : TypeId} (h : Row w b #[a0, a1, a2] t) : Row (((w.setCell ⟨b, 0, none⟩ v0).setCell ⟨b, 1, none⟩ v1).setCell ⟨b, 2, none⟩ v2) b #[v0, v1, v2] t := ((h.set 0 v0).set 1 v1).set 2 v2

theorem bThen {B : Nat} {w W w1 : World} (h : Below B w W) (hb : Below W.heap.size W w1) (hB : B ≤ W.heap.size) : Below B w w1 := h.trans (hb.mono hB)
theorem Row.newAt {W : World} {b : Nat} (cs : Array Value) (t : TypeId) (h : W.heap.size = b) : Row (W.alloc (.cells cs t)) b cs t := by subst h; exact Row.new _ _ _

end Go.Proofs.Ytkfimfjjmdjbdaa
/- Walks: package edwards: what is reckoned with numbers; whether a pair is a point. -/
namespace Go.Proofs.Ytkfimfjjmdjbdaa
open Go.RowKit

abbrev edV (X Y : Int) : Value := .agg #[.int .u64 X, .int .u64 Y]

theorem RAdd (a b : Int) (ha : 0 ≤ a) (hb : 0 ≤ b) (w : World) :
    Calls Try.prog 68 #[.int .u64 288230376287764481, .int .u64 a, .int .u64 b] w fun e w' => e = .returned (.int .u64 ((Obol.addR a.toNat b.toNat : Nat) : Int)) ∧ ∃ n, w' = w.drewN n :=
  by rw [Obol.addR_eq]; exact mAdd _ a b (by omega) (by omega) ha hb w
theorem RSub (a b : Int) (ha : 0 ≤ a) (hb : 0 ≤ b) (w : World) :
    Calls Try.prog 67 #[.int .u64 288230376287764481, .int .u64 a, .int .u64 b] w fun e w' => e = .returned (.int .u64 ((Obol.subR a.toNat b.toNat : Nat) : Int)) ∧ ∃ n, w' = w.drewN n :=
  by rw [Obol.subR_eq]; exact mSub _ a b (by omega) (by omega) ha hb w
theorem RMul (a b : Int) (ha : 0 ≤ a) (hb : 0 ≤ b) (w : World) :
    Calls Try.prog 90 #[.int .u64 288230376287764481, .int .u64 a, .int .u64 b] w fun e w' => e = .returned (.int .u64 ((Obol.mulR a.toNat b.toNat : Nat) : Int)) ∧ ∃ n, w' = w.drewN n :=
  by rw [Obol.mulR_eq]; exact mMul _ a b (by omega) (by omega) ha hb w

theorem eMul (a b : Int) (ha : 0 ≤ a) (hb : 0 ≤ b) (w : World) :
    Calls Try.prog 66 #[.int .u64 a, .int .u64 b] w fun e w' => e = .returned (.int .u64 ((Obol.mulR a.toNat b.toNat : Nat) : Int)) ∧ ∃ n, w' = w.drewN n := by
  go_enter Try.func66, Try.ntmps66
  go_wp2_with (go_at_call 90; refine (RMul _ _ ha hb _).mono ?_; rintro e w' ⟨rfl, n, rfl⟩)
  go_ret
  exact ⟨rfl, _, rfl⟩

theorem litR : (288230376287764481 : Int).toNat = Obol.R := by decide +kernel
theorem litR2 : (288230376287764479 : Int).toNat = Obol.R - 2 := by decide +kernel
theorem RPow2 (b : Int) (hb : 0 ≤ b) (w : World) :
    Calls Try.prog 71 #[.int .u64 288230376287764481, .int .u64 b, .int .u64 288230376287764479] w fun e w' => e = .returned (.int .u64 ((Obol.invR b.toNat : Nat) : Int)) ∧ ∃ n, w' = w.drewN n := by
  have h := mPow 288230376287764481 b 288230376287764479 (by omega) (by omega) hb (by omega) (by omega) w
  rw [litR, litR2] at h
  rw [Obol.powM, ← Obol.invR_eq] at h
  exact h

theorem eOver (a b : Int) (ha : 0 ≤ a) (hb : 0 ≤ b) (w : World) :
    Calls Try.prog 98 #[.int .u64 a, .int .u64 b] w fun e w' => e = .returned (.int .u64 ((Obol.overR a.toNat b.toNat : Nat) : Int)) ∧ ∃ n, w' = w.drewN n := by
  go_enter Try.func98, Try.ntmps98
  go_wp2_with (first | (go_at_call 71; refine (RPow2 _ hb _).mono ?_; rintro e w' ⟨rfl, n, rfl⟩) | (go_at_call 66; refine (eMul _ _ ha (by omega) _).mono ?_; rintro e w' ⟨rfl, n', rfl⟩))
  go_ret
  refine ⟨?_, _, rfl⟩
  show Ending.returned (.int .u64 ((Obol.mulR a.toNat (Obol.invR b.toNat) : Nat) : Int)) = _
  rw [Obol.overR]

theorem isN_far1 {x y : Nat} (h : 288230376287764481 ≤ x) : Obol.isN (x, y) = false := by
  unfold Obol.isN
  rw [decide_eq_false (show ¬ x < Obol.R by rw [Obol.R_def]; omega)]
  rfl
theorem isN_far2 {x y : Nat} (h : 288230376287764481 ≤ y) : Obol.isN (x, y) = false := by
  unfold Obol.isN
  rw [decide_eq_false (show ¬ y < Obol.R by rw [Obol.R_def]; omega), Bool.and_false, Bool.false_and]
theorem isN_near {x y : Nat} (h1 : x < 288230376287764481) (h2 : y < 288230376287764481) :
    Obol.isN (x, y) = (((Obol.subR (Obol.mulR y y) (Obol.mulR x x) : Nat) : Int) == ((Obol.addR 1 (Obol.mulR 439 (Obol.mulR (Obol.mulR x x) (Obol.mulR y y))) : Nat) : Int)) := by
  unfold Obol.isN
  rw [decide_eq_true (show x < Obol.R by rw [Obol.R_def]; omega), decide_eq_true (show y < Obol.R by rw [Obol.R_def]; omega), Bool.true_and, Bool.true_and, Bool.eq_iff_iff, decide_eq_true_eq, beq_iff_eq, Int.ofNat_inj]

theorem eIs (X Y : Int) (hX : 0 ≤ X) (hY : 0 ≤ Y) (w : World) :
    Calls Try.prog 50 #[edV X Y] w fun e w' => e = .returned (.bool (Obol.isN (X.toNat, Y.toNat))) ∧ Below w.heap.size w w' := by
  by_cases h1 : (288230376287764481 : Int) ≤ X
  · have hr := Lib.hid (isN_far1 (x := X.toNat) (y := Y.toNat) (by omega))
    go_enter Try.func50, Try.ntmps50
    go_wp2_with fail
    go_ret
    exact ⟨by rw [hr.out]; rfl, by repeat (first | exact Below.refl _ _ | assumption | apply bDrewN | apply bDrew | apply bAlloc | refine bSet ?_ (by omega) | refine bThen ?_ (by assumption) (by simp <;> omega))⟩
  · by_cases h2 : (288230376287764481 : Int) ≤ Y
    · have hr := Lib.hid (isN_far2 (x := X.toNat) (y := Y.toNat) (by omega))
      go_enter Try.func50, Try.ntmps50
      go_wp2_with fail
      go_ret
      exact ⟨by rw [hr.out]; rfl, by repeat (first | exact Below.refl _ _ | assumption | apply bDrewN | apply bDrew | apply bAlloc | refine bSet ?_ (by omega) | refine bThen ?_ (by assumption) (by simp <;> omega))⟩
    · have hr := Lib.hid (isN_near (x := X.toNat) (y := Y.toNat) (by omega) (by omega))
      go_enter Try.func50, Try.ntmps50
      go_wp2_with fail
      go_quiet ((go_at_call 66; exact Calls.quiet_of (eMul _ _ (by omega) (by omega) _)))
      go_wp2_with (first | (go_at_call 66; refine (eMul _ _ (by omega) (by omega) _).mono ?_; rintro e w' ⟨rfl, n, rfl⟩) | (go_at_call 68; refine (RAdd _ _ (by omega) (by omega) _).mono ?_; rintro e w' ⟨rfl, n, rfl⟩) | (go_at_call 67; refine (RSub _ _ (by omega) (by omega) _).mono ?_; rintro e w' ⟨rfl, n, rfl⟩))
      go_ret
      exact ⟨by rw [hr.out]; rfl, by repeat (first | exact Below.refl _ _ | assumption | apply bDrewN | apply bDrew | apply bAlloc | refine bSet ?_ (by omega) | refine bThen ?_ (by assumption) (by simp <;> omega))⟩

/-- A result that lies in a new variable. -/
theorem eZero (w : World) :
    Calls Try.prog 52 #[] w fun e w' => e = .returned (edV 0 1) ∧ Below w.heap.size w w' := by
  go_enter Try.func52, Try.ntmps52
  go_wp2_with fail
  refine bodyPost_ret (v := edV 0 1) (by simp [results, Try.results52, go_sem]) rfl ⟨rfl, ?_⟩
  repeat (first | exact Below.refl _ _ | apply bDrewN | apply bAlloc)

theorem eSure (X Y : Int) (hX : 0 ≤ X) (hY : 0 ≤ Y) (w : World) :
    Calls Try.prog 69 #[edV X Y] w fun e w' => e = .returned (edV ((Obol.sureN (X.toNat, Y.toNat)).1 : Nat) ((Obol.sureN (X.toNat, Y.toNat)).2 : Nat)) ∧ Below w.heap.size w w' := by
  by_cases hi : Obol.isN (X.toNat, Y.toNat) = true
  · have hI := Lib.hid hi
    have hR : Hid (Ending.returned (edV X Y) = .returned (edV ((Obol.sureN (X.toNat, Y.toNat)).1 : Nat) ((Obol.sureN (X.toNat, Y.toNat)).2 : Nat))) := by
      show _ = _
      rw [Obol.sureN, if_pos hi, Int.toNat_of_nonneg hX, Int.toNat_of_nonneg hY]
    clear hi
    go_enter Try.func69, Try.ntmps69
    go_wp2_with (go_at_call 50; refine (eIs _ _ (by omega) (by omega) _).mono ?_; rintro e w1 ⟨rfl, hb⟩; rw [hI.out]; obtain ⟨hc, hf⟩ := bcell hb; have hz := hb.size; (try simp at hz))
    refine bodyPost_ret (v := edV X Y) (by simp [results, Try.results69, go_sem, hc]) rfl ⟨hR.out, ?_⟩
    repeat (first | exact Below.refl _ _ | assumption | apply bDrewN | apply bDrew | apply bAlloc | refine bSet ?_ (by omega) | refine bThen ?_ (by assumption) (by simp <;> omega))
  · have hI := Lib.hid (Bool.eq_false_iff.2 hi)
    have hR : Hid (Ending.returned (edV 0 1) = .returned (edV ((Obol.sureN (X.toNat, Y.toNat)).1 : Nat) ((Obol.sureN (X.toNat, Y.toNat)).2 : Nat))) := by
      show _ = _
      rw [Obol.sureN, if_neg hi]
      rfl
    clear hi
    go_enter Try.func69, Try.ntmps69
    go_wp2_with (first | (go_at_call 50; refine (eIs _ _ (by omega) (by omega) _).mono ?_; rintro e w1 ⟨rfl, hb⟩; rw [hI.out]; obtain ⟨hc, hf⟩ := bcell hb; have hz := hb.size; (try simp at hz)) | (go_at_call 52; refine (eZero _).mono ?_; rintro e w2 ⟨rfl, hb2⟩; replace hb := bThen hb hb2 hb.size; clear hb2; obtain ⟨hc2, hf2⟩ := bcell hb; have hz2 := hb.size; (try simp at hz2)))
    refine bodyPost_ret (v := edV 0 1) (by simp [results, Try.results69, go_sem, hc2]) rfl ⟨hR.out, ?_⟩
    repeat (first | exact Below.refl _ _ | assumption | apply bDrewN | apply bDrew | apply bAlloc | refine bSet ?_ (by omega) | refine bThen ?_ (by assumption) (by simp <;> omega))

end Go.Proofs.Ytkfimfjjmdjbdaa
/- Walks: package edwards: sums of whatever, opposites. -/
namespace Go.Proofs.Ytkfimfjjmdjbdaa
open Go.RowKit

abbrev scV (X Y Z : Int) : Value := .agg #[.int .u64 X, .int .u64 Y, .int .u64 Z]

theorem eTogether (X Y Z X' Y' Z' : Int) (hX : 0 ≤ X) (hY : 0 ≤ Y) (hZ : 0 ≤ Z) (hX' : 0 ≤ X') (hY' : 0 ≤ Y') (hZ' : 0 ≤ Z') (w : World) :
    Calls Try.prog 70 #[scV X Y Z, scV X' Y' Z'] w fun e w' =>
      e = .returned (scV (Obol.togN (X.toNat, Y.toNat, Z.toNat) (X'.toNat, Y'.toNat, Z'.toNat)).1 (Obol.togN (X.toNat, Y.toNat, Z.toNat) (X'.toNat, Y'.toNat, Z'.toNat)).2.1 (Obol.togN (X.toNat, Y.toNat, Z.toNat) (X'.toNat, Y'.toNat, Z'.toNat)).2.2) ∧ Below w.heap.size w w' := by
  go_enter Try.func70, Try.ntmps70
  go_wp2_with (first | (go_at_call 66; refine (eMul _ _ (by omega) (by omega) _).mono ?_; rintro e w' ⟨rfl, n, rfl⟩))
  go_quiet ((first | (go_at_call 66; first | (refine Calls.quiet_of (eMul _ _ ?_ ?_ _) <;> omega) | (refine quiet_add (eMul _ _ ?_ ?_ _) <;> omega))))
  go_wp2_with (first | (go_at_call 66; refine (eMul _ _ (by omega) (by omega) _).mono ?_; rintro e w' ⟨rfl, n, rfl⟩) | (go_at_call 68; refine (RAdd _ _ (by omega) (by omega) _).mono ?_; rintro e w' ⟨rfl, n, rfl⟩) | (go_at_call 67; refine (RSub _ _ (by omega) (by omega) _).mono ?_; rintro e w' ⟨rfl, n, rfl⟩))
  go_quiet ((first | (go_at_call 66; first | (refine Calls.quiet_of (eMul _ _ ?_ ?_ _) <;> omega) | (refine quiet_add (eMul _ _ ?_ ?_ _) <;> omega)) | (go_at_call 68; first | (refine Calls.quiet_of (RAdd _ _ ?_ ?_ _) <;> omega) | (refine quiet_add (RAdd _ _ ?_ ?_ _) <;> omega))))
  go_wp2_with (first | (go_at_call 66; refine (eMul _ _ (by omega) (by omega) _).mono ?_; rintro e w' ⟨rfl, n, rfl⟩) | (go_at_call 68; refine (RAdd _ _ (by omega) (by omega) _).mono ?_; rintro e w' ⟨rfl, n, rfl⟩) | (go_at_call 67; refine (RSub _ _ (by omega) (by omega) _).mono ?_; rintro e w' ⟨rfl, n, rfl⟩))
  refine bodyPost_ret (v := scV _ _ _) (by simp [results, Try.results70, go_sem]; exact ⟨rfl, rfl, rfl⟩) rfl ⟨rfl, ?_⟩
  repeat (first | exact Below.refl _ _ | assumption | apply bDrewN | apply bDrew | apply bAlloc | refine bSet ?_ (by omega) | refine bThen ?_ (by assumption) (by simp <;> omega))

end Go.Proofs.Ytkfimfjjmdjbdaa
/- Walks: package edwards: multiples. -/
namespace Go.Proofs.Ytkfimfjjmdjbdaa
open Go.RowKit

structure MulI (A : Obol.Pt) (K : Nat) (ox oy oz bx by' bz en : Int) : Prop where
  o1 : 0 ≤ ox
  o2 : 0 ≤ oy
  o3 : 0 ≤ oz
  b1 : 0 ≤ bx
  b2 : 0 ≤ by'
  b3 : 0 ≤ bz
  e0 : 0 ≤ en
  e1 : en ≤ 18446744073709551615
  inv : Obol.MulInv A K (ox.toNat, oy.toNat, oz.toNat) (bx.toNat, by'.toNat, bz.toNat) en.toNat

abbrev t1 (t : Nat × Nat × Nat) : Int := (t.1 : Nat)
abbrev t2 (t : Nat × Nat × Nat) : Int := (t.2.1 : Nat)
abbrev t3 (t : Nat × Nat × Nat) : Int := (t.2.2 : Nat)

theorem MulI.one {A : Obol.Pt} {K : Nat} {ox oy oz bx by' bz en : Int} (h : MulI A K ox oy oz bx by' bz en) (ho : en % 2 = 1) :
    MulI A K ((Obol.togN (ox.toNat, oy.toNat, oz.toNat) (bx.toNat, by'.toNat, bz.toNat)).1 : Nat) ((Obol.togN (ox.toNat, oy.toNat, oz.toNat) (bx.toNat, by'.toNat, bz.toNat)).2.1 : Nat)
      ((Obol.togN (ox.toNat, oy.toNat, oz.toNat) (bx.toNat, by'.toNat, bz.toNat)).2.2 : Nat) ((Obol.togN (bx.toNat, by'.toNat, bz.toNat) (bx.toNat, by'.toNat, bz.toNat)).1 : Nat)
      ((Obol.togN (bx.toNat, by'.toNat, bz.toNat) (bx.toNat, by'.toNat, bz.toNat)).2.1 : Nat) ((Obol.togN (bx.toNat, by'.toNat, bz.toNat) (bx.toNat, by'.toNat, bz.toNat)).2.2 : Nat) (en / 2) := by
  have h0 := h.e0
  have h1 := h.e1
  refine ⟨by omega, by omega, by omega, by omega, by omega, by omega, by omega, by omega, ?_⟩
  have := h.inv.one (by omega)
  rw [Int.toNat_natCast, Int.toNat_natCast, Int.toNat_natCast, Int.toNat_natCast, Int.toNat_natCast, Int.toNat_natCast, show (en / 2).toNat = en.toNat / 2 by omega]
  exact this
theorem MulI.zero {A : Obol.Pt} {K : Nat} {ox oy oz bx by' bz en : Int} (h : MulI A K ox oy oz bx by' bz en) (ho : en % 2 = 0) :
    MulI A K ox oy oz ((Obol.togN (bx.toNat, by'.toNat, bz.toNat) (bx.toNat, by'.toNat, bz.toNat)).1 : Nat)
      ((Obol.togN (bx.toNat, by'.toNat, bz.toNat) (bx.toNat, by'.toNat, bz.toNat)).2.1 : Nat) ((Obol.togN (bx.toNat, by'.toNat, bz.toNat) (bx.toNat, by'.toNat, bz.toNat)).2.2 : Nat) (en / 2) := by
  have h0 := h.e0
  have h1 := h.e1
  refine ⟨h.o1, h.o2, h.o3, by omega, by omega, by omega, by omega, by omega, ?_⟩
  have := h.inv.zero (by omega)
  rw [Int.toNat_natCast, Int.toNat_natCast, Int.toNat_natCast, show (en / 2).toNat = en.toNat / 2 by omega]
  exact this

set_option maxHeartbeats 2000000 in
theorem eMulK (X Y k : Int) (hX : 0 ≤ X) (hY : 0 ≤ Y) (hk : 0 ≤ k) (hk1 : k ≤ 18446744073709551615) (w : World) :
    Calls Try.prog 51 #[edV X Y, .int .u64 k] w fun e w' =>
      e = .returned (edV ((Obol.smulN (X.toNat, Y.toNat) k.toNat).1 : Nat) ((Obol.smulN (X.toNat, Y.toNat) k.toNat).2 : Nat)) ∧ Below w.heap.size w w' := by
  go_enter Try.func51, Try.ntmps51
  go_wp2_with fail
  refine (eSure _ _ (by omega) (by omega) _).mono ?_
  rintro e w1 ⟨rfl, hb⟩
  obtain ⟨hc, hf⟩ := bcell hb; have hz := hb.size; (try simp at hz)
  have R0 : Row w1 w.heap.size #[.int .u64 X, .int .u64 Y] 24 := ((Row.new _ _ _).alloc _).below hb (by simp; omega)
  have R1 : Row w1 (w.heap.size + 1) #[.int .u64 0, .int .u64 0] 24 := by have h := Row.new (w.alloc (.cells #[.int .u64 X, .int .u64 Y] 24)) #[.int .u64 0, .int .u64 0] 24; rw [World.size_alloc] at h; exact h.below hb (by simp)
  have hb1 : Below w.heap.size w w1 := by repeat (first | exact Below.refl _ _ | assumption | apply bDrewN | apply bDrew | apply bAlloc | refine bSet ?_ (by omega) | refine bThen ?_ (by assumption) (by simp <;> omega))
  have g0 := R0.cell 0 rfl
  have g1 := R0.cell 1 rfl
  have f0 := R0.free 0
  have f1 := R0.free 1
  clear hc hf hb
  go_upto_region 2 with (fail)
  obtain ⟨sx, hsx⟩ : ∃ z : Int, z = ((Obol.sureN (X.toNat, Y.toNat)).1 : Nat) := ⟨_, rfl⟩
  obtain ⟨sy, hsy⟩ : ∃ z : Int, z = ((Obol.sureN (X.toNat, Y.toNat)).2 : Nat) := ⟨_, rfl⟩
  rw [← hsx, ← hsy]
  replace hsx := Lib.hid hsx
  replace hsy := Lib.hid hsy
  replace R0 := R0.set2 (v0 := .int .u64 sx) (v1 := .int .u64 sy)
  replace R1 := (R1.other (v := .int .u64 sx) (c := w.heap.size) (o := 0) (by omega)).other (v := .int .u64 sy) (c := w.heap.size) (o := 1) (by omega)
  replace hb1 : Below w.heap.size w ((w1.setCell ⟨w.heap.size, 0, none⟩ (.int .u64 sx)).setCell ⟨w.heap.size, 1, none⟩ (.int .u64 sy)) := bSet (bSet hb1 (by omega)) (by omega)
  clear hz g0 g1 f0 f1
  generalize hw2 : (w1.setCell ⟨w.heap.size, 0, none⟩ (.int .u64 sx)).setCell ⟨w.heap.size, 1, none⟩ (.int .u64 sy) = w2
  rw [hw2] at R0 R1 hb1
  clear hw2
  have g0 := R0.cell 0 rfl
  have g1 := R0.cell 1 rfl
  have hz := R1.lt
  have hz0 := R0.lt
  go_cut [5, 6] (fun v5 v6 wc => ∃ a b : Nat, v5 = .pointer (some ⟨a, 0, none⟩) ∧ v6 = .pointer (some ⟨b, 0, none⟩) ∧ a ≠ b ∧ w.heap.size + 1 < a ∧ w.heap.size + 1 < b ∧ Below w.heap.size w wc ∧
    Row wc a #[.int .u64 0, .int .u64 1, .int .u64 1] 109 ∧ Row wc b #[.int .u64 sx, .int .u64 sy, .int .u64 1] 109 ∧ Row wc (w.heap.size + 1) #[.int .u64 0, .int .u64 0] 24)
  case first =>
    go_region
    all_goals (go_wp2_with fail; go_meet)
    · exact ⟨_, _, rfl, rfl, by omega, by omega, by omega, bDrew (bAlloc (bAlloc hb1 _) _), ((Row.new _ _ _).alloc _).drew, (Row.new1 _ _ _ _).drew, ((R1.alloc _).alloc _).drew⟩
    · exact ⟨_, _, rfl, rfl, by omega, by omega, by omega, bDrew (bAlloc (bAlloc hb1 _) _), (Row.new1 _ _ _ _).drew, ((Row.new _ _ _).alloc _).drew, ((R1.alloc _).alloc _).drew⟩
  case rest =>
    obtain ⟨a, b, rfl, rfl, hab, ha, hbb, hbc, Ra, Rb, Rr⟩ := hcut
    have I0 : Hid (MulI (Obol.Pnt.of (X.toNat, Y.toNat)) k.toNat 0 1 1 sx sy 1 k) := by
      have e1 := hsx.out
      have e2 := hsy.out
      have hn := Obol.sure_n (X.toNat, Y.toNat)
      rw [hn] at e1 e2
      refine ⟨by omega, by omega, by omega, by omega, by omega, by omega, hk, hk1, ?_⟩
      rw [e1, e2, Int.toNat_natCast, Int.toNat_natCast]
      exact Obol.MulInv.start _ _
    go_wp2_with fail
    go_loopw [1] (fun e wr => ∃ ox oy oz bx by' bz en : Int, e = .int .u64 en ∧ Row wr a #[.int .u64 ox, .int .u64 oy, .int .u64 oz] 109 ∧ Row wr b #[.int .u64 bx, .int .u64 by', .int .u64 bz] 109 ∧
      Row wr (w.heap.size + 1) #[.int .u64 0, .int .u64 0] 24 ∧ Below w.heap.size w wr ∧ Hid (MulI (Obol.Pnt.of (X.toNat, Y.toNat)) k.toNat ox oy oz bx by' bz en)) (fun e _ => (intOf e).toNat)
    case atStart => exact ⟨0, 1, 1, sx, sy, 1, k, rfl, Ra, Rb, Rr, hbc, I0⟩
    case round =>
      have hba : b ≠ a := fun e => hab e.symm
      have hra : w.heap.size + 1 ≠ a := by omega
      have hrb : w.heap.size + 1 ≠ b := by omega
      clear Ra Rb Rr hbc I0 R0 R1 hb1 g0 g1 hz hz0
      obtain ⟨ox, oy, oz, bx, by', bz, en, rfl, Ra, Rb, Rr, hbc, HI⟩ := hrel
      have i1 := HI.out.o1
      have i2 := HI.out.o2
      have i3 := HI.out.o3
      have i4 := HI.out.b1
      have i5 := HI.out.b2
      have i6 := HI.out.b3
      have j3 := HI.out.e0
      have j4 := HI.out.e1
      have ea := and_one_u64 en j3 j4
      have a0 := Ra.cell 0 rfl
      have a1 := Ra.cell 1 rfl
      have a2 := Ra.cell 2 rfl
      have b0 := Rb.cell 0 rfl
      have b1 := Rb.cell 1 rfl
      have b2 := Rb.cell 2 rfl
      by_cases hp : 0 < en
      · by_cases ho : en % 2 = 1
        · have HN := Lib.hid (HI.out.one ho)
          go_wp2_with fail
          refine (eTogether _ _ _ _ _ _ i1 i2 i3 i4 i5 i6 _).mono ?_
          rintro e w3 ⟨rfl, hb3⟩
          replace hbc := bThen hbc hb3 hbc.size
          replace Rb := Rb.below hb3 Rb.lt
          replace Rr := Rr.below hb3 Rr.lt
          replace Ra := Ra.below hb3 Ra.lt
          clear a0 a1 a2 b0 b1 b2 hb3
          have a0 := Ra.cell 0 rfl
          have a1 := Ra.cell 1 rfl
          have a2 := Ra.cell 2 rfl
          have b0 := Rb.cell 0 rfl
          have b1 := Rb.cell 1 rfl
          have b2 := Rb.cell 2 rfl
          have f0 := Ra.free 0
          have f1 := Ra.free 1
          have f2 := Ra.free 2
          go_wp2_with fail
          refine (eTogether _ _ _ _ _ _ i4 i5 i6 i4 i5 i6 _).mono ?_
          rintro e w4 ⟨rfl, hb4⟩
          replace hbc := bThen (bSet (bSet (bSet hbc (b := a) (by omega)) (b := a) (by omega)) (b := a) (by omega)) hb4 (bSet (bSet (bSet hbc (b := a) (by omega)) (b := a) (by omega)) (b := a) (by omega)).size
          replace Rb := (((Rb.other hba).other hba).other hba).below hb4 (((Rb.other hba).other hba).other hba).lt
          replace Rr := (((Rr.other hra).other hra).other hra).below hb4 (((Rr.other hra).other hra).other hra).lt
          replace Ra := Ra.set3.below hb4 Ra.set3.lt
          clear a0 a1 a2 b0 b1 b2 hb4 f0 f1 f2
          have a0 := Ra.cell 0 rfl
          have a1 := Ra.cell 1 rfl
          have a2 := Ra.cell 2 rfl
          have b0 := Rb.cell 0 rfl
          have b1 := Rb.cell 1 rfl
          have b2 := Rb.cell 2 rfl
          have f0 := Rb.free 0
          have f1 := Rb.free 1
          have f2 := Rb.free 2
          go_wp2_with fail
          go_roundw
          case rel => exact ⟨_, _, _, _, _, _, _, rfl, ((Ra.other hab).other hab).other hab, Rb.set3, ((Rr.other hrb).other hrb).other hrb, bSet (bSet (bSet hbc (by omega)) (by omega)) (by omega), HN⟩
          case measure => simp [intOf]; omega
        · have ho' : en % 2 = 0 := by omega
          have HN := Lib.hid (HI.out.zero ho')
          clear ho
          go_wp2_with fail
          refine (eTogether _ _ _ _ _ _ i4 i5 i6 i4 i5 i6 _).mono ?_
          rintro e w4 ⟨rfl, hb4⟩
          replace hbc := bThen hbc hb4 hbc.size
          replace Rb := Rb.below hb4 Rb.lt
          replace Rr := Rr.below hb4 Rr.lt
          replace Ra := Ra.below hb4 Ra.lt
          clear a0 a1 a2 b0 b1 b2 hb4
          have a0 := Ra.cell 0 rfl
          have a1 := Ra.cell 1 rfl
          have a2 := Ra.cell 2 rfl
          have b0 := Rb.cell 0 rfl
          have b1 := Rb.cell 1 rfl
          have b2 := Rb.cell 2 rfl
          have f0 := Rb.free 0
          have f1 := Rb.free 1
          have f2 := Rb.free 2
          go_wp2_with fail
          go_roundw
          case rel => exact ⟨_, _, _, _, _, _, _, rfl, ((Ra.other hab).other hab).other hab, Rb.set3, ((Rr.other hrb).other hrb).other hrb, bSet (bSet (bSet hbc (by omega)) (by omega)) (by omega), HN⟩
          case measure => simp [intOf]; omega
      · have HD : Hid ((Obol.mulR ox.toNat (Obol.invR oz.toNat), Obol.mulR oy.toNat (Obol.invR oz.toNat)) = Obol.smulN (X.toNat, Y.toNat) k.toNat) := by
          have h := HI.out.inv
          rw [show en.toNat = 0 by omega] at h
          rw [Obol.smulN_eq]
          exact h.done
        have r0 := Rr.cell 0 rfl
        have r1 := Rr.cell 1 rfl
        have fr0 := Rr.free 0
        have fr1 := Rr.free 1
        go_wp2_with (go_at_call 71; refine (RPow2 _ i3 _).mono ?_; rintro e w' ⟨rfl, n, rfl⟩)
        go_region_with (go_at_call 66; refine (eMul _ _ (by omega) (by omega) _).mono ?_; rintro e w' ⟨rfl, n, rfl⟩)
        all_goals go_wp2_with fail
        all_goals
          refine bodyPost_ret (v := edV (Obol.mulR ox.toNat (Obol.invR oz.toNat) : Nat) (Obol.mulR oy.toNat (Obol.invR oz.toNat) : Nat)) (by simp [results, Try.results51, go_sem, r0, r1]) rfl ⟨by rw [← HD.out], ?_⟩
          repeat (first | exact Below.refl _ _ | assumption | apply bDrewN | apply bDrew | apply bAlloc | refine bSet ?_ (by omega) | refine bThen ?_ (by assumption) (by simp <;> omega))

end Go.Proofs.Ytkfimfjjmdjbdaa
/- Walks: the reference of layer 1: sums, products, powers bit by bit. -/
namespace Go.Proofs.Ytkfimfjjmdjbdaa
open Go.RowKit

theorem end_add1 (m x y : Int) (h0 : 1 ≤ m) (h1 : m ≤ 4611686018427387904) (ha : 0 ≤ x) (hb : 0 ≤ y) (hx : x < m) (hy : y < m) :
    (if m - y ≤ x then x - (m - y) else x + y) = ((Obol.addM m.toNat x.toNat y.toNat : Nat) : Int) := by
  have := Obol.add_mod_by (m := m.toNat) (a := x.toNat) (b := y.toNat) (by omega) (by omega)
  rw [Obol.addM, ← this]
  split
  · rw [if_pos (by omega)]; omega
  · rw [if_neg (by omega)]; omega
theorem addM_mod (m a b : Nat) : Obol.addM m (a % m) (b % m) = Obol.addM m a b := by unfold Obol.addM; rw [← Nat.add_mod]
theorem toNat_mod {m a : Int} (ha : 0 ≤ a) (h0 : 1 ≤ m) : (a % m).toNat = a.toNat % m.toNat := Int.toNat_emod ha (by omega)

theorem r1Add (m a b : Int) (h0 : 1 ≤ m) (h1 : m ≤ 4611686018427387904) (ha : 0 ≤ a) (hb : 0 ≤ b) (w : World) :
    Calls Try.prog 83 #[.int .u64 m, .int .u64 a, .int .u64 b] w fun e w' => e = .returned (.int .u64 ((Obol.addM m.toNat a.toNat b.toNat : Nat) : Int)) ∧ w' = w := by
  have h2 := Int.emod_nonneg a (show m ≠ 0 by omega)
  have h3 := Int.emod_lt_of_pos a (show 0 < m by omega)
  have h4 := Int.emod_nonneg b (show m ≠ 0 by omega)
  have h5 := Int.emod_lt_of_pos b (show 0 < m by omega)
  have he := end_add1 m (a % m) (b % m) h0 h1 h2 h4 h3 h5
  rw [toNat_mod ha h0, toNat_mod hb h0, addM_mod] at he
  have e1 : a.tmod m = a % m := Int.tmod_eq_emod_of_nonneg ha
  have e2 : b.tmod m = b % m := Int.tmod_eq_emod_of_nonneg hb
  obtain ⟨x, hx⟩ : ∃ x : Int, x = a % m := ⟨_, rfl⟩
  obtain ⟨y, hy⟩ : ∃ y : Int, y = b % m := ⟨_, rfl⟩
  rw [← hx, ← hy] at he
  rw [← hx] at e1 h2 h3
  rw [← hy] at e2 h4 h5
  replace hx := hx.symm
  replace hy := hy.symm
  by_cases hc : m - y ≤ x
  · rw [if_pos hc] at he
    have HE := Lib.hid he
    clear he
    go_enter Try.func83, Try.ntmps83
    go_wp2
    go_ret
    exact ⟨ret_u64 HE.out, rfl⟩
  · rw [if_neg hc] at he
    have HE := Lib.hid he
    clear he
    go_enter Try.func83, Try.ntmps83
    go_wp2
    go_ret
    exact ⟨ret_u64 HE.out, rfl⟩

/-- What is known ahead of a product's next bit. -/
structure R1I (m x y : Nat) (O i : Int) : Prop where
  i0 : 0 ≤ i
  i1 : i ≤ 64
  o0 : 0 ≤ O
  o1 : O < m
  eq : O.toNat = y / 2 ^ (64 - i.toNat) * x % m

/-- The next bit of a number, from the highest on. -/
def bitI (y i : Int) : Int := y / 2 ^ (63 - i).toNat % 2
theorem bitI_01 (y i : Int) : bitI y i = 0 ∨ bitI y i = 1 := by unfold bitI; omega
theorem bitI_toNat (y i : Int) (hy : 0 ≤ y) (h0 : 0 ≤ i) (h1 : i < 64) : bitI y i = ((y.toNat / 2 ^ (63 - i.toNat) % 2 : Nat) : Int) := by
  unfold bitI
  rw [show (63 - i).toNat = 63 - i.toNat by omega, Int.natCast_emod, Int.natCast_ediv, Int.toNat_of_nonneg hy]
  rfl
theorem bitI_bits (y i : Int) (hy : 0 ≤ y) (hy1 : y ≤ 18446744073709551615) : bits .and .u64 (y / 2 ^ (63 - i).toNat) 1 = bitI y i := by
  have h2 : (1 : Int) ≤ 2 ^ (63 - i).toNat := Int.add_one_le_of_lt (Int.pow_pos (by omega))
  have h0 : 0 ≤ y / 2 ^ (63 - i).toNat := Int.ediv_nonneg hy (by omega)
  have h1 : y / 2 ^ (63 - i).toNat ≤ y := Int.ediv_le_self _ hy
  rw [and_one_u64 _ h0 (by omega)]
  rfl

def dblI (m O : Int) : Int := if m - O ≤ O then O - (m - O) else O + O
def stepI (m x O B : Int) : Int := if B = 1 then (if m - x ≤ dblI m O then dblI m O - (m - x) else dblI m O + x) else dblI m O

theorem R1I.step {m x y O i : Int} (h : R1I m.toNat x.toNat y.toNat O i) (hm : 1 ≤ m) (hx : 0 ≤ x) (hxm : x < m) (hy : 0 ≤ y) (hi : i < 64) {O' : Int} (he : O' = stepI m x O (bitI y i)) :
    R1I m.toNat x.toNat y.toNat O' (i + 1) := by
  have i0 := h.i0
  have o0 := h.o0
  have o1 := h.o1
  have hd : dblI m O = (((O.toNat + O.toNat) % m.toNat : Nat) : Int) := by
    have := Obol.add_mod_by (m := m.toNat) (a := O.toNat) (b := O.toNat) (by omega) (by omega)
    rw [← this]
    unfold dblI
    split
    · rw [if_pos (by omega)]; omega
    · rw [if_neg (by omega)]; omega
  have hdl : (O.toNat + O.toNat) % m.toNat < m.toNat := Nat.mod_lt _ (by omega)
  have hD : O' = (((((O.toNat + O.toNat) % m.toNat) + (if y.toNat / 2 ^ (63 - i.toNat) % 2 = 1 then x.toNat % m.toNat else 0)) % m.toNat : Nat) : Int) := by
    have hb := bitI_toNat y i hy i0 hi
    rw [Nat.mod_eq_of_lt (show x.toNat < m.toNat by omega)]
    have := Obol.add_mod_by (m := m.toNat) (a := (O.toNat + O.toNat) % m.toNat) (b := x.toNat) hdl (by omega)
    rw [he, stepI, hd]
    generalize (O.toNat + O.toNat) % m.toNat = D at *
    by_cases hB : bitI y i = 1
    · rw [if_pos hB, if_pos (show y.toNat / 2 ^ (63 - i.toNat) % 2 = 1 by omega), ← this]
      split
      · rw [if_pos (by omega)]; omega
      · rw [if_neg (by omega)]; omega
    · rw [if_neg hB, if_neg (show ¬ y.toNat / 2 ^ (63 - i.toNat) % 2 = 1 by omega), Nat.add_zero, Nat.mod_eq_of_lt hdl]
  have hs := Obol.mul_step m.toNat x.toNat y.toNat i.toNat (by omega)
  rw [← h.eq] at hs
  rw [hs] at hD
  have hl := Nat.mod_lt (y.toNat / 2 ^ (64 - (i.toNat + 1)) * x.toNat) (show m.toNat > 0 by omega)
  refine ⟨by omega, by omega, by omega, by omega, ?_⟩
  rw [show (i + 1).toNat = i.toNat + 1 by omega, hD, Int.toNat_natCast]

theorem R1I.done {m a b O i : Int} (h : R1I m.toNat (a % m).toNat (b % m).toNat O i) (hm : 1 ≤ m) (ha : 0 ≤ a) (hb : 0 ≤ b) (hi : ¬ i < 64) : O = ((Obol.mulM m.toNat a.toNat b.toNat : Nat) : Int) := by
  have h1 := h.eq
  have i1 := h.i1
  have o0 := h.o0
  rw [show i.toNat = 64 by omega, Nat.sub_self, Nat.pow_zero, Nat.div_one, toNat_mod ha hm, toNat_mod hb hm, Nat.mul_comm, ← Nat.mul_mod] at h1
  rw [Obol.mulM]
  omega

theorem r1Mul (m a b : Int) (h0 : 1 ≤ m) (h1 : m ≤ 4611686018427387904) (ha : 0 ≤ a) (hb : 0 ≤ b) (w : World) :
    Calls Try.prog 93 #[.int .u64 m, .int .u64 a, .int .u64 b] w fun e w' => e = .returned (.int .u64 ((Obol.mulM m.toNat a.toNat b.toNat : Nat) : Int)) ∧ w' = w := by
  have h2 := Int.emod_nonneg a (show m ≠ 0 by omega)
  have h3 := Int.emod_lt_of_pos a (show 0 < m by omega)
  have h4 := Int.emod_nonneg b (show m ≠ 0 by omega)
  have h5 := Int.emod_lt_of_pos b (show 0 < m by omega)
  have e1 : a.tmod m = a % m := Int.tmod_eq_emod_of_nonneg ha
  have e2 : b.tmod m = b % m := Int.tmod_eq_emod_of_nonneg hb
  obtain ⟨x, hx⟩ : ∃ x : Int, x = a % m := ⟨_, rfl⟩
  obtain ⟨y, hy⟩ : ∃ y : Int, y = b % m := ⟨_, rfl⟩
  rw [← hx] at e1 h2 h3
  rw [← hy] at e2 h4 h5
  replace hx := hx.symm
  replace hy := hy.symm
  have HX := Lib.hid hx
  have HY := Lib.hid hy
  have I0 : Hid (R1I m.toNat x.toNat y.toNat 0 0) := Lib.hid ⟨by omega, by omega, by omega, by omega, by
    show (0 : Int).toNat = y.toNat / 2 ^ 64 * x.toNat % m.toNat
    rw [Nat.div_eq_of_lt (by omega), Nat.zero_mul]; rfl⟩
  go_enter Try.func93, Try.ntmps93
  go_wp2
  go_loopw [9, 10] (fun o c wr => ∃ O i : Int, o = .int .u64 O ∧ c = .int .i64 i ∧ Hid (R1I m.toNat x.toNat y.toNat O i) ∧ wr = w) (fun _ c _ => (64 - intOf c).toNat)
  case atStart => exact ⟨0, 0, rfl, rfl, I0, rfl⟩
  case round =>
    obtain ⟨O, i, rfl, rfl, HI, rfl⟩ := hrel
    have i0 := HI.out.i0
    have i1 := HI.out.i1
    have j0 := HI.out.o0
    have j1 : O < m := by have := HI.out.o1; omega
    have ea := bitI_bits y i h4 (by omega)
    by_cases hi : i < 64
    · rcases bitI_01 y i with hB | hB
      all_goals
        rw [hB] at ea
        go_wp2
      all_goals
        refine ⟨⟨_, _, rfl, rfl, Lib.hid (HI.out.step h0 h2 h3 h4 hi ?_), trivial⟩, by simp [intOf]; omega⟩
        unfold stepI dblI
        repeat' split
        all_goals omega
    · have HD : Hid (O = ((Obol.mulM m.toNat a.toNat b.toNat : Nat) : Int)) := Lib.hid (by
        have h := HI.out
        rw [← HX.out, ← HY.out] at h
        exact h.done h0 ha hb hi)
      go_wp2
      go_ret
      exact ⟨ret_u64 HD.out, rfl⟩

/-- What is known ahead of a power's next bit. -/
structure R1P (m a e : Nat) (O i : Int) : Prop where
  i0 : 0 ≤ i
  i1 : i ≤ 64
  o0 : 0 ≤ O
  eq : O.toNat = a ^ (e / 2 ^ (64 - i.toNat)) % m

theorem R1P.one {m a e : Nat} {O i y : Int} (h : R1P m a e O i) (he : e = y.toNat) (hy : 0 ≤ y) (hi : i < 64) (hb : bitI y i = 1) :
    R1P m a e ((Obol.mulM m (Obol.mulM m O.toNat O.toNat) a : Nat) : Int) (i + 1) := by
  have i0 := h.i0
  refine ⟨by omega, by omega, by omega, ?_⟩
  have hs := Obol.pow_step m a e i.toNat (by omega)
  have hb' := bitI_toNat y i hy i0 hi
  rw [← h.eq, if_pos (by rw [he]; omega)] at hs
  rw [Int.toNat_natCast, show (i + 1).toNat = i.toNat + 1 by omega]
  exact hs
theorem R1P.zero {m a e : Nat} {O i y : Int} (h : R1P m a e O i) (he : e = y.toNat) (hy : 0 ≤ y) (hi : i < 64) (hb : bitI y i = 0) :
    R1P m a e ((Obol.mulM m O.toNat O.toNat : Nat) : Int) (i + 1) := by
  have i0 := h.i0
  refine ⟨by omega, by omega, by omega, ?_⟩
  have hs := Obol.pow_step m a e i.toNat (by omega)
  have hb' := bitI_toNat y i hy i0 hi
  rw [← h.eq, if_neg (by rw [he]; omega)] at hs
  rw [Int.toNat_natCast, show (i + 1).toNat = i.toNat + 1 by omega]
  exact hs

theorem r1Pow (m a e : Int) (h0 : 2 ≤ m) (h1 : m ≤ 4611686018427387904) (ha : 0 ≤ a) (he : 0 ≤ e) (he1 : e ≤ 18446744073709551615) (w : World) :
    Calls Try.prog 87 #[.int .u64 m, .int .u64 a, .int .u64 e] w fun r w' => r = .returned (.int .u64 ((Obol.powM m.toNat a.toNat e.toNat : Nat) : Int)) ∧ w' = w := by
  have e1 : (1 : Int).tmod m = 1 := by rw [Int.tmod_eq_emod_of_nonneg (by omega), Int.emod_eq_of_lt (by omega) (by omega)]
  have e2 : (1 : Int) % m = 1 := by rw [Int.emod_eq_of_lt (by omega) (by omega)]
  have I0 : Hid (R1P m.toNat a.toNat e.toNat 1 0) := Lib.hid ⟨by omega, by omega, by omega, by
    show 1 = a.toNat ^ (e.toNat / 2 ^ 64) % m.toNat
    rw [Nat.div_eq_of_lt (by omega), Nat.pow_zero, Nat.mod_eq_of_lt (by omega)]⟩
  go_enter Try.func87, Try.ntmps87
  go_wp2
  go_loopw [7, 8] (fun o c wr => ∃ O i : Int, o = .int .u64 O ∧ c = .int .i64 i ∧ Hid (R1P m.toNat a.toNat e.toNat O i) ∧ wr = w) (fun _ c _ => (64 - intOf c).toNat)
  case atStart => exact ⟨1, 0, rfl, rfl, I0, rfl⟩
  case round =>
    obtain ⟨O, i, rfl, rfl, HI, rfl⟩ := hrel
    have i0 := HI.out.i0
    have i1 := HI.out.i1
    have j0 := HI.out.o0
    have ea := bitI_bits e i he he1
    by_cases hi : i < 64
    · rcases bitI_01 e i with hB | hB
      · have HN := Lib.hid (HI.out.zero rfl he hi hB)
        rw [hB] at ea
        go_wp2_with (go_at_call 93; refine (r1Mul _ _ _ (by omega) (by omega) (by omega) (by omega) _).mono ?_; rintro e w' ⟨rfl, rfl⟩)
        exact ⟨⟨_, _, rfl, rfl, HN, trivial⟩, by simp [intOf]; omega⟩
      · have HN := Lib.hid (HI.out.one rfl he hi hB)
        rw [hB] at ea
        go_wp2_with (go_at_call 93; refine (r1Mul _ _ _ (by omega) (by omega) (by omega) (by omega) _).mono ?_; rintro e w' ⟨rfl, rfl⟩)
        exact ⟨⟨_, _, rfl, rfl, HN, trivial⟩, by simp [intOf]; omega⟩
    · have HD : Hid (O = ((Obol.powM m.toNat a.toNat e.toNat : Nat) : Int)) := Lib.hid (by
        have h := HI.out.eq
        rw [show i.toNat = 64 by omega, Nat.sub_self, Nat.pow_zero, Nat.div_one] at h
        rw [Obol.powM]
        omega)
      go_wp2
      go_ret
      exact ⟨ret_u64 HD.out, rfl⟩

/-! the same modulo R -/
theorem R1Add (a b : Int) (ha : 0 ≤ a) (hb : 0 ≤ b) (w : World) :
    Calls Try.prog 83 #[.int .u64 288230376287764481, .int .u64 a, .int .u64 b] w fun e w' => e = .returned (.int .u64 ((Obol.addR a.toNat b.toNat : Nat) : Int)) ∧ w' = w :=
  by rw [Obol.addR_eq]; exact r1Add _ a b (by omega) (by omega) ha hb w
theorem R1Mul (a b : Int) (ha : 0 ≤ a) (hb : 0 ≤ b) (w : World) :
    Calls Try.prog 93 #[.int .u64 288230376287764481, .int .u64 a, .int .u64 b] w fun e w' => e = .returned (.int .u64 ((Obol.mulR a.toNat b.toNat : Nat) : Int)) ∧ w' = w :=
  by rw [Obol.mulR_eq]; exact r1Mul _ a b (by omega) (by omega) ha hb w
theorem R1Pow2 (b : Int) (hb : 0 ≤ b) (w : World) :
    Calls Try.prog 87 #[.int .u64 288230376287764481, .int .u64 b, .int .u64 288230376287764479] w fun e w' => e = .returned (.int .u64 ((Obol.invR b.toNat : Nat) : Int)) ∧ w' = w := by
  have h := r1Pow 288230376287764481 b 288230376287764479 (by omega) (by omega) hb (by omega) (by omega) w
  rw [litR, litR2] at h
  rw [Obol.powM, ← Obol.invR_eq] at h
  exact h

end Go.Proofs.Ytkfimfjjmdjbdaa
/- Walks: the reference of layer 7: the field, points, sums, multiples. -/
namespace Go.Proofs.Ytkfimfjjmdjbdaa
open Go.RowKit

theorem addR_less (a b : Nat) : Obol.addR a (288230376287764481 - b % 288230376287764481) = Obol.subR a b := by
  rw [Obol.addR_eq, Obol.subR_eq, Obol.addQ, Obol.subQ, Obol.R_def]
  omega

theorem r7Mul (a b : Int) (ha : 0 ≤ a) (hb : 0 ≤ b) (w : World) :
    Calls Try.prog 79 #[.int .u64 a, .int .u64 b] w fun e w' => e = .returned (.int .u64 ((Obol.mulR a.toNat b.toNat : Nat) : Int)) ∧ ∃ n, w' = w.drewN n := by
  go_enter Try.func79, Try.ntmps79
  go_wp2_with (go_at_call 93; refine (R1Mul _ _ ha hb _).mono ?_; rintro e w' ⟨rfl, rfl⟩)
  go_ret
  exact ⟨rfl, 0, rfl⟩
theorem r7Plus (a b : Int) (ha : 0 ≤ a) (hb : 0 ≤ b) (w : World) :
    Calls Try.prog 80 #[.int .u64 a, .int .u64 b] w fun e w' => e = .returned (.int .u64 ((Obol.addR a.toNat b.toNat : Nat) : Int)) ∧ ∃ n, w' = w.drewN n := by
  go_enter Try.func80, Try.ntmps80
  go_wp2_with (go_at_call 83; refine (R1Add _ _ ha hb _).mono ?_; rintro e w' ⟨rfl, rfl⟩)
  go_ret
  exact ⟨rfl, 0, rfl⟩
theorem r7Less (a b : Int) (ha : 0 ≤ a) (hb : 0 ≤ b) (w : World) :
    Calls Try.prog 89 #[.int .u64 a, .int .u64 b] w fun e w' => e = .returned (.int .u64 ((Obol.subR a.toNat b.toNat : Nat) : Int)) ∧ ∃ n, w' = w.drewN n := by
  have h1 : (288230376287764481 - b % 288230376287764481).toNat = 288230376287764481 - b.toNat % 288230376287764481 := by omega
  have he := addR_less a.toNat b.toNat
  rw [← h1] at he
  obtain ⟨z, hz⟩ : ∃ z : Int, z = b % 288230376287764481 := ⟨_, rfl⟩
  rw [← hz] at he
  have HE := Lib.hid he
  have e1 : b.tmod 288230376287764481 = z := by rw [Int.tmod_eq_emod_of_nonneg hb]; exact hz.symm
  have h2 : 0 ≤ z := by omega
  have h3 : z < 288230376287764481 := by omega
  replace hz := hz.symm
  clear he h1
  go_enter Try.func89, Try.ntmps89
  go_wp2_with (go_at_call 80; refine (r7Plus _ _ ha (by omega) _).mono ?_; rintro e w' ⟨rfl, n, rfl⟩)
  go_ret
  exact ⟨ret_u64 (by rw [HE.out]), _, rfl⟩
theorem r7Over (a b : Int) (ha : 0 ≤ a) (hb : 0 ≤ b) (w : World) :
    Calls Try.prog 88 #[.int .u64 a, .int .u64 b] w fun e w' => e = .returned (.int .u64 ((Obol.overR a.toNat b.toNat : Nat) : Int)) ∧ ∃ n, w' = w.drewN n := by
  go_enter Try.func88, Try.ntmps88
  go_wp2_with (first | (go_at_call 87; refine (R1Pow2 _ hb _).mono ?_; rintro e w' ⟨rfl, rfl⟩) | (go_at_call 79; refine (r7Mul _ _ (by omega) (by omega) _).mono ?_; rintro e w' ⟨rfl, n, rfl⟩))
  go_ret
  refine ⟨?_, _, rfl⟩
  show Ending.returned (.int .u64 ((Obol.mulR a.toNat (Obol.invR b.toNat) : Nat) : Int)) = _
  rw [Obol.overR]

theorem isN_near2 {x y : Nat} (h1 : x < 288230376287764481) (h2 : y < 288230376287764481) :
    Obol.isN (x, y) = (((Obol.mulR y y : Nat) : Int) == ((Obol.addR (Obol.mulR x x) (Obol.addR 1 (Obol.mulR 439 (Obol.mulR (Obol.mulR x x) (Obol.mulR y y)))) : Nat) : Int)) := by
  rw [isN_near h1 h2, Bool.eq_iff_iff, beq_iff_eq, beq_iff_eq, Int.ofNat_inj, Int.ofNat_inj]
  have h3 := Obol.mulR_lt y y
  have h4 := Obol.mulR_lt x x
  have h5 : Obol.addR 1 (Obol.mulR 439 (Obol.mulR (Obol.mulR x x) (Obol.mulR y y))) < Obol.R := by rw [Obol.addR_eq]; exact Nat.mod_lt _ Obol.R_pos
  generalize Obol.addR 1 (Obol.mulR 439 (Obol.mulR (Obol.mulR x x) (Obol.mulR y y))) = c at *
  generalize Obol.mulR x x = a at *
  generalize Obol.mulR y y = b at *
  rw [Obol.addR_eq, Obol.subR_eq, Obol.addQ, Obol.subQ]
  rw [Obol.R_def] at *
  omega

theorem r7Is (X Y : Int) (hX : 0 ≤ X) (hY : 0 ≤ Y) (w : World) :
    Calls Try.prog 57 #[edV X Y] w fun e w' => e = .returned (.bool (Obol.isN (X.toNat, Y.toNat))) ∧ Below w.heap.size w w' := by
  by_cases h1 : (288230376287764481 : Int) ≤ X
  · have hr := Lib.hid (isN_far1 (x := X.toNat) (y := Y.toNat) (by omega))
    go_enter Try.func57, Try.ntmps57
    go_wp2_with fail
    go_ret
    exact ⟨by rw [hr.out]; rfl, by repeat (first | exact Below.refl _ _ | assumption | apply bDrewN | apply bDrew | apply bAlloc | refine bSet ?_ (by omega) | refine bThen ?_ (by assumption) (by simp <;> omega))⟩
  · by_cases h2 : (288230376287764481 : Int) ≤ Y
    · have hr := Lib.hid (isN_far2 (x := X.toNat) (y := Y.toNat) (by omega))
      go_enter Try.func57, Try.ntmps57
      go_wp2_with fail
      go_ret
      exact ⟨by rw [hr.out]; rfl, by repeat (first | exact Below.refl _ _ | assumption | apply bDrewN | apply bDrew | apply bAlloc | refine bSet ?_ (by omega) | refine bThen ?_ (by assumption) (by simp <;> omega))⟩
    · have hr := Lib.hid (isN_near2 (x := X.toNat) (y := Y.toNat) (by omega) (by omega))
      go_enter Try.func57, Try.ntmps57
      go_wp2_with (first | (go_at_call 79; refine (r7Mul _ _ (by omega) (by omega) _).mono ?_; rintro e w' ⟨rfl, n, rfl⟩) | (go_at_call 80; refine (r7Plus _ _ (by omega) (by omega) _).mono ?_; rintro e w' ⟨rfl, n, rfl⟩))
      go_ret
      exact ⟨by rw [hr.out]; rfl, by repeat (first | exact Below.refl _ _ | assumption | apply bDrewN | apply bDrew | apply bAlloc | refine bSet ?_ (by omega) | refine bThen ?_ (by assumption) (by simp <;> omega))⟩

end Go.Proofs.Ytkfimfjjmdjbdaa
/- Roots modulo R: there are two at most; and the steps by which one is found (Tonelli and Shanks). -/
namespace Obol

theorem R_two : 2 < R := rootR.big
theorem pow_cong {a b : Nat} (n : Nat) (h : a % R = b % R) : a ^ n % R = b ^ n % R := by rw [Nat.pow_mod, h, ← Nat.pow_mod]
theorem mul_cong {a b c d : Nat} (h : a % R = b % R) (k : c % R = d % R) : a * c % R = b * d % R := by rw [Nat.mul_mod, h, k, ← Nat.mul_mod]

theorem two_roots {x y : Nat} (hx : x < R) (hy : y < R) (h : x * x % R = y * y % R) : x = y ∨ x + y = R := by
  have key : ∀ x y, y < x → x < R → x * x % R = y * y % R → x + y = R := by
    intro x y hlt hx h
    have e : (x - y) * (x + y) % R = 0 := by
      have e1 : (x - y) * (x + y) = x * x - y * y := by
        rw [Nat.mul_comm, Nat.mul_self_sub_mul_self_eq]
      rw [e1]
      have e2 := Nat.mul_le_mul (Nat.le_of_lt hlt) (Nat.le_of_lt hlt)
      have d1 := Nat.div_add_mod (x * x) R
      have d2 := Nat.div_add_mod (y * y) R
      have e3 : x * x - y * y = R * (x * x / R - y * y / R) := by
        rw [Nat.mul_sub]
        omega
      rw [e3, Nat.mul_mod_right]
    refine Classical.byContradiction fun hn => ?_
    refine rootR.nonzero (a := x - y) (b := x + y) ?_ ?_ e
    · rw [Nat.mod_eq_of_lt (by omega)]; omega
    · by_cases hl : x + y < R
      · rw [Nat.mod_eq_of_lt hl]; omega
      · rw [Nat.mod_eq_sub_mod (by omega), Nat.mod_eq_of_lt (by omega)]; omega
  rcases Nat.lt_trichotomy x y with g | g | g
  · right; rw [Nat.add_comm]; exact key y x g hy h.symm
  · exact .inl g
  · exact .inr (key x y g hx h)

theorem one_root {u : Nat} (hu : u < R) (h : u * u % R = 1) (h1 : u ≠ 1) : u = R - 1 := by
  have := R_two
  rcases two_roots (x := u) (y := 1) hu (by omega) (by rw [h, Nat.mul_one, Nat.mod_eq_of_lt (by omega)]) with e | e
  · exact absurd e h1
  · omega

theorem last_sq : (R - 1) * (R - 1) % R = 1 := by decide +kernel

theorem three_pow (n : Nat) (h : n < 2 ^ 64) (e : powm R 64 3 n = R - 1) : 3 ^ n % R = R - 1 := by rw [← powm_eq R 64 3 n h]; exact e

/-- What is known ahead of each round. -/
structure TS (a c t x w : Nat) : Prop where
  c_lt : c < R
  t_lt : t < R
  x_lt : x < R
  w_pos : 0 < w
  w_le : w ≤ 18
  root : x * x % R = a * t % R
  tp : t ^ (2 ^ (w - 1)) % R = 1
  cp : c ^ (2 ^ (w - 1)) % R = R - 1

def oddR : Nat := 1099511628295
def oddH : Nat := 549755814148
theorem odd_H : oddH + oddH = oddR + 1 := rfl
theorem odd_R {w : Nat} (hw : w = 18) : oddR * 2 ^ (w - 1) = (R - 1) / 2 := by subst hw; decide +kernel

theorem TS.init {a w : Nat} (hw : w = 18) (h : a ^ ((R - 1) / 2) % R = 1) :
    TS a (3 ^ oddR % R) (a ^ oddR % R) (a ^ oddH % R) w where
  c_lt := Nat.mod_lt _ (by decide +kernel)
  t_lt := Nat.mod_lt _ (by decide +kernel)
  x_lt := Nat.mod_lt _ (by decide +kernel)
  w_pos := by omega
  w_le := by omega
  root := by
    rw [← Nat.mul_mod, ← Nat.pow_add, Nat.mul_mod a, Nat.mod_mod, ← Nat.mul_mod, Nat.mul_comm a, ← Nat.pow_succ, odd_H]
  tp := by
    rw [← Nat.pow_mod, ← Nat.pow_mul, odd_R hw]
    exact h
  cp := by
    rw [← Nat.pow_mod, ← Nat.pow_mul, odd_R hw]
    exact three_pow _ (by decide +kernel) (by decide +kernel)

theorem sq_pow (t i : Nat) : t ^ 2 ^ i % R * (t ^ 2 ^ i % R) % R = t ^ 2 ^ (i + 1) % R := by
  rw [← Nat.mul_mod, ← Nat.pow_add, Nat.pow_succ]
  congr 2
  omega

theorem TS.step {a c t x w : Nat} (h : TS a c t x w) {i : Nat} (h0 : 0 < i) (hi : t ^ 2 ^ i % R = 1) (hm : ∀ j, j < i → t ^ 2 ^ j % R ≠ 1) {b : Nat} (hb : b = c ^ (2 ^ (w - i - 1)) % R) :
    i < w ∧ TS a (b * b % R) (t * (b * b % R) % R) (x * b % R) i := by
  have hRp : 0 < R := by decide +kernel
  have hiw : i < w := by
    refine Nat.lt_of_not_le fun hle => ?_
    exact hm (w - 1) (by have := h.w_pos; omega) h.tp
  have hw := h.w_le
  have cc : (b * b % R) ^ 2 ^ (i - 1) % R = R - 1 := by
    rw [← Nat.pow_mod, ← Nat.pow_two, ← Nat.pow_mul, hb, ← Nat.pow_mod, ← Nat.pow_mul]
    have : 2 ^ (w - i - 1) * (2 * 2 ^ (i - 1)) = 2 ^ (w - 1) := by
      rw [← Nat.pow_succ', ← Nat.pow_add]
      congr 1
      omega
    rw [this]
    exact h.cp
  have tt : t ^ 2 ^ (i - 1) % R = R - 1 := by
    refine one_root (Nat.mod_lt _ hRp) ?_ (hm (i - 1) (by omega))
    rw [sq_pow, show i - 1 + 1 = i by omega]
    exact hi
  refine ⟨hiw, Nat.mod_lt _ hRp, Nat.mod_lt _ hRp, Nat.mod_lt _ hRp, h0, by omega, ?_, ?_, cc⟩
  · have e1 : x * b % R * (x * b % R) % R = x * x * (b * b) % R := by
      rw [← Nat.mul_mod]
      congr 1
      simp only [Nat.mul_comm, Nat.mul_left_comm]
    have e2 : a * (t * (b * b % R) % R) % R = a * t * (b * b) % R := by
      rw [Nat.mul_mod a, Nat.mod_mod, ← Nat.mul_mod, ← Nat.mul_assoc, Nat.mul_mod, Nat.mod_mod, ← Nat.mul_mod]
    rw [e1, e2]
    exact mul_cong h.root rfl
  · rw [← Nat.pow_mod, Nat.mul_pow, Nat.mul_mod, tt, cc]
    exact last_sq

theorem TS.done {a c x w : Nat} (h : TS a c 1 x w) : x * x % R = a % R := by rw [h.root, Nat.mul_one]

/-- Has it a root? -/
def sqB (a : Nat) : Bool := a % R == 0 || a ^ ((R - 1) / 2) % R == 1

theorem sqB_iff (a : Nat) : sqB a = true ↔ ∃ x, x < R ∧ x * x % R = a % R := by
  unfold sqB
  simp only [Bool.or_eq_true, beq_iff_eq]
  constructor
  · rintro (h | h)
    · exact ⟨0, by decide +kernel, by rw [h]; decide +kernel⟩
    · by_cases h0 : a % R = 0
      · exact ⟨0, by decide +kernel, by rw [h0]; decide +kernel⟩
      · exact rootR.square (by decide +kernel) a h0 h
  · rintro ⟨x, hx, h⟩
    by_cases h0 : a % R = 0
    · exact .inl h0
    · exact .inr (rootR.euler (by decide +kernel) a x h0 h)

end Obol
/- The root that isn't above R / 2; the loops that find it. -/
namespace Obol

theorem R_odd : R % 2 = 1 := by decide +kernel
theorem half_unique {x y : Nat} (hx : 2 * x ≤ R) (hy : 2 * y ≤ R) (h : x * x % R = y * y % R) : x = y := by
  have h1 := R_two
  have h2 := R_odd
  rcases two_roots (x := x) (y := y) (by omega) (by omega) h with e | e
  · exact e
  · omega
theorem half_exists {a : Nat} (h : sqB a = true) : ∃ x, 2 * x ≤ R ∧ x * x % R = a % R := by
  obtain ⟨x, hx, e⟩ := (sqB_iff a).1 h
  by_cases h2 : 2 * x ≤ R
  · exact ⟨x, h2, e⟩
  · refine ⟨R - x, by omega, ?_⟩
    rw [← e]
    have h3 : (R - x) * (R - x) + (2 * R * x) = R * R + x * x := by
      obtain ⟨k, hk⟩ := Nat.exists_eq_add_of_le (Nat.le_of_lt hx)
      rw [hk, Nat.add_sub_cancel_left]
      grind
    have h4 : ((R - x) * (R - x) + R * (2 * x)) % R = (x * x + R * R) % R := by
      rw [show R * (2 * x) = 2 * R * x by grind, h3, Nat.add_comm]
    rw [Nat.add_mul_mod_self_left, Nat.add_mul_mod_self_left] at h4
    exact h4
open Classical in
noncomputable def rootN : Nat → Nat := (shut fun (a : Nat) => if h : sqB a = true then choose (half_exists h) else 0).1
theorem rootN_ok {a : Nat} (h : sqB a = true) : 2 * rootN a ≤ R ∧ rootN a * rootN a % R = a % R := by
  have e : rootN a = _ := congrFun (shut fun (a : Nat) => if h : sqB a = true then Classical.choose (half_exists h) else 0).2 a
  rw [e, dif_pos h]
  exact Classical.choose_spec (half_exists h)
theorem rootN_is {a x : Nat} (h : sqB a = true) (hx : 2 * x ≤ R) (e : x * x % R = a % R) : x = rootN a :=
  half_unique hx (rootN_ok h).1 (e.trans (rootN_ok h).2.symm)

noncomputable def powR : Nat → Nat → Nat := (shut fun a e : Nat => a ^ e % R).1
theorem powR_eq (a e : Nat) : powR a e = a ^ e % R := congrFun (congrFun (shut fun a e : Nat => a ^ e % R).2 a) e

/-- What is known ahead of each round. -/
structure RootI (a : Nat) (c t x w : Int) : Prop where
  c0 : 0 ≤ c
  t0 : 0 ≤ t
  x0 : 0 ≤ x
  w0 : 1 ≤ w
  w1 : w ≤ 18
  ts : TS a c.toNat t.toNat x.toNat w.toNat
structure RootS (t w : Nat) (i s : Int) : Prop where
  i0 : 0 ≤ i
  i1 : i < w
  s0 : 0 ≤ s
  eq : s.toNat = t ^ 2 ^ i.toNat % R
  no : ∀ j, j < i.toNat → t ^ 2 ^ j % R ≠ 1
structure RootB (c : Nat) (n b j : Int) : Prop where
  j0 : 0 ≤ j
  j1 : j ≤ n
  b0 : 0 ≤ b
  eq : b.toNat = c ^ 2 ^ j.toNat % R

theorem RootI.start {a : Int} (h : a.toNat ^ ((R - 1) / 2) % R = 1) :
    RootI a.toNat ((powR 3 oddR : Nat) : Int) ((powR a.toNat oddR : Nat) : Int) ((powR a.toNat oddH : Nat) : Int) 18 := by
  refine ⟨by omega, by omega, by omega, by omega, by omega, ?_⟩
  rw [Int.toNat_natCast, Int.toNat_natCast, Int.toNat_natCast, powR_eq, powR_eq, powR_eq]
  exact TS.init rfl h
theorem RootI.inner {a : Nat} {c t x w : Int} (h : RootI a c t x w) : RootS t.toNat w.toNat 0 t := by
  have := h.ts.w_pos
  refine ⟨by omega, by omega, h.t0, ?_, fun j hj => by omega⟩
  rw [show (0 : Int).toNat = 0 from rfl, Nat.pow_zero, Nat.pow_one, Nat.mod_eq_of_lt h.ts.t_lt]
theorem RootS.step {a : Nat} {c t x w i s : Int} (h : RootI a c t x w) (k : RootS t.toNat w.toNat i s) (hs : s ≠ 1) : RootS t.toNat w.toNat (i + 1) ((mulR s.toNat s.toNat : Nat) : Int) := by
  have i0 := k.i0
  have i1 := k.i1
  have s0 := k.s0
  have w0 := h.w0
  have he := k.eq
  have hne : t.toNat ^ 2 ^ i.toNat % R ≠ 1 := by rw [← he]; omega
  refine ⟨by omega, ?_, by omega, ?_, ?_⟩
  · refine Classical.byContradiction fun hn => hne ?_
    have : i.toNat = w.toNat - 1 := by omega
    rw [this]
    exact h.ts.tp
  · rw [Int.toNat_natCast, mulR_eq, mulQ, he, sq_pow, show (i + 1).toNat = i.toNat + 1 by omega]
  · intro j hj
    by_cases e : j = i.toNat
    · rw [e]; exact hne
    · exact k.no j (by omega)
theorem RootB.start {a : Nat} {c t x w n : Int} (h : RootI a c t x w) (hn : 0 ≤ n) : RootB c.toNat n c 0 := by
  refine ⟨by omega, hn, h.c0, ?_⟩
  rw [show (0 : Int).toNat = 0 from rfl, Nat.pow_zero, Nat.pow_one, Nat.mod_eq_of_lt h.ts.c_lt]
theorem RootB.step {c : Nat} {n b j : Int} (h : RootB c n b j) (hj : j < n) : RootB c n ((mulR b.toNat b.toNat : Nat) : Int) (j + 1) := by
  have j0 := h.j0
  refine ⟨by omega, by omega, by omega, ?_⟩
  rw [Int.toNat_natCast, mulR_eq, mulQ, h.eq, sq_pow, show (j + 1).toNat = j.toNat + 1 by omega]
theorem RootI.step {a : Nat} {c t x w i b j n : Int} (h : RootI a c t x w) (k : RootS t.toNat w.toNat i 1) (ht : t ≠ 1) (hn : n = w - i - 1) (g : RootB c.toNat n b j) (hj : ¬ j < n) :
    RootI a ((mulR b.toNat b.toNat : Nat) : Int) ((mulR t.toNat (mulR b.toNat b.toNat) : Nat) : Int) ((mulR x.toNat b.toNat : Nat) : Int) i ∧ i < w := by
  have t0 := h.t0
  have w0 := h.w0
  have w1 := h.w1
  have i0 := k.i0
  have i1 := k.i1
  have j1 := g.j1
  have he := k.eq
  have h0 : 0 < i.toNat := by
    refine Nat.pos_of_ne_zero fun e => ht ?_
    rw [e, Nat.pow_zero, Nat.pow_one, Nat.mod_eq_of_lt h.ts.t_lt] at he
    omega
  have hb : b.toNat = c.toNat ^ 2 ^ (w.toNat - i.toNat - 1) % R := by
    rw [g.eq]
    congr 2
    congr 1
    omega
  obtain ⟨hlt, ts⟩ := h.ts.step h0 (by rw [← he]; rfl) k.no hb
  refine ⟨⟨by omega, by omega, by omega, by omega, by omega, ?_⟩, by omega⟩
  rw [Int.toNat_natCast, Int.toNat_natCast, Int.toNat_natCast, mulR_eq]
  exact ts
theorem RootI.done {a : Nat} {c x w : Int} (h : RootI a c 1 x w) (ha : sqB a = true) (h0 : a % R ≠ 0) : x < R ∧ (if x < R - x then x else R - x) = ((rootN a : Nat) : Int) := by
  have x0 := h.x0
  have xl := h.ts.x_lt
  have hr := h.ts.root
  rw [show (1 : Int).toNat = 1 from rfl, Nat.mul_one] at hr
  have hp : x.toNat ≠ 0 := fun e => by
    rw [e, Nat.zero_mul, Nat.zero_mod] at hr
    exact h0 hr.symm
  have ho := rootN_ok ha
  refine ⟨by omega, ?_⟩
  rcases two_roots (x := x.toNat) (y := rootN a) xl (by have := R_two; omega) (hr.trans ho.2.symm) with e | e
  · split <;> omega
  · split <;> omega

end Obol
/- Walks: package modular: roots. -/
namespace Go.Proofs.Ytkfimfjjmdjbdaa
open Go.RowKit

theorem litH : (144115188143882240 : Int).toNat = (Obol.R - 1) / 2 := by decide +kernel
theorem lit3 : (3 : Int).toNat = 3 := rfl
theorem RPow (a e : Int) (ha : 0 ≤ a) (he : 0 ≤ e) (he1 : e ≤ 18446744073709551615) (w : World) :
    Calls Try.prog 71 #[.int .u64 288230376287764481, .int .u64 a, .int .u64 e] w fun r w' => r = .returned (.int .u64 ((Obol.powR a.toNat e.toNat : Nat) : Int)) ∧ ∃ n, w' = w.drewN n := by
  have h := mPow 288230376287764481 a e (by omega) (by omega) ha he he1 w
  rw [litR] at h
  rw [Obol.powM, ← Obol.powR_eq] at h
  exact h

/-- What an error value of package api is. -/
abbrev errV (k : Int) : Value := .iface 45 (.int .i64 k)
noncomputable abbrev rootV (a : Nat) : Value := if Obol.sqB a = true then .tuple #[.int .u64 (if a % Obol.R = 0 then 0 else (Obol.rootN a : Nat)), .nilIface] else .tuple #[.int .u64 0, errV 2]

/-- The root that is told. -/
def RootI' (a : Nat) (x : Int) : Prop := x = ((Obol.rootN a : Nat) : Int)

/-- The loop that halves R - 1. -/
structure OddI (O T : Int) : Prop where
  t0 : 0 ≤ T
  t1 : T ≤ 18
  eq : O = 1099511628295 * 2 ^ (18 - T.toNat)
theorem OddI.pos {O T : Int} (h : OddI O T) : 1 ≤ O ∧ O ≤ 288230376287764480 := by
  have h1 : (1 : Int) ≤ 2 ^ (18 - T.toNat) := Int.add_one_le_of_lt (Int.pow_pos (by omega))
  have h2 : 2 ^ (18 - T.toNat) ≤ 2 ^ 18 := Nat.pow_le_pow_right (by omega) (by omega)
  have h3 : ((2 ^ (18 - T.toNat) : Nat) : Int) = 2 ^ (18 - T.toNat) := by rw [Int.natCast_pow]; rfl
  rw [h.eq]
  omega
theorem OddI.step {O T : Int} (h : OddI O T) (ht : T < 18) : O % 2 = 0 ∧ OddI (O / 2) (T + 1) := by
  have t0 := h.t0
  have e : O = 1099511628295 * 2 ^ (18 - (T + 1).toNat) * 2 := by
    rw [h.eq, show 18 - T.toNat = 18 - (T + 1).toNat + 1 by omega, Int.pow_succ, Int.mul_assoc]
  generalize hz : (1099511628295 : Int) * 2 ^ (18 - (T + 1).toNat) = z at e
  exact ⟨by omega, by omega, by omega, by omega⟩
theorem OddI.last {O : Int} (h : OddI O 18) : O = 1099511628295 := by
  rw [h.eq]
  decide

set_option maxHeartbeats 2000000 in
theorem mRoot (a : Int) (ha : 0 ≤ a) (w : World) :
    Calls Try.prog 97 #[.int .u64 a] w fun e w' => e = .returned (rootV a.toNat) ∧ ∃ n, w' = w.drewN n := by
  have h1 : 0 ≤ a % 288230376287764481 := by omega
  have e1 : a.tmod 288230376287764481 = a % 288230376287764481 := Int.tmod_eq_emod_of_nonneg ha
  have hmod : a.toNat % Obol.R = (a % 288230376287764481).toNat := by rw [Obol.R_def]; omega
  by_cases h0 : a % 288230376287764481 = 0
  · have hR : Hid (Value.tuple #[Value.int .u64 0, Value.nilIface] = rootV a.toNat) := Lib.hid (by
      have hz : a.toNat % Obol.R = 0 := by rw [hmod, h0]; rfl
      have : Obol.sqB a.toNat = true := by unfold Obol.sqB; rw [hz]; rfl
      unfold rootV
      rw [if_pos this, if_pos hz])
    clear hmod
    go_enter Try.func97, Try.ntmps97
    go_wp2_with fail
    go_ret2
    exact ⟨congrArg Ending.returned hR.out, 0, rfl⟩
  · obtain ⟨y, hy⟩ : ∃ y : Int, y = a % 288230376287764481 := ⟨_, rfl⟩
    have hH := fun w => RPow (a % 288230376287764481) 144115188143882240 h1 (by omega) (by omega) w
    rw [litH] at hH
    have hpw : Obol.powR (a % 288230376287764481).toNat ((Obol.R - 1) / 2) = a.toNat ^ ((Obol.R - 1) / 2) % Obol.R := by
      rw [Obol.powR_eq, ← hmod, ← Nat.pow_mod]
    rw [hpw] at hH
    have hsq : Obol.sqB a.toNat = (a.toNat ^ ((Obol.R - 1) / 2) % Obol.R == 1) := by
      unfold Obol.sqB
      have : (a.toNat % Obol.R == 0) = false := by rw [beq_eq_false_iff_ne, hmod]; omega
      rw [this, Bool.false_or]
    have hz : a.toNat % Obol.R ≠ 0 := by rw [hmod]; omega
    obtain ⟨pw, hpw2⟩ : ∃ z : Int, z = ((a.toNat ^ ((Obol.R - 1) / 2) % Obol.R : Nat) : Int) := ⟨_, rfl⟩
    rw [← hpw2] at hH
    by_cases hs : a.toNat ^ ((Obol.R - 1) / 2) % Obol.R = 1
    · have hB : Obol.sqB a.toNat = true := by rw [hsq, hs]; rfl
      have hR : Hid (∀ x : Int, RootI' a.toNat x → Value.tuple #[Value.int .u64 x, Value.nilIface] = rootV a.toNat) := Lib.hid (fun x hx => by
        unfold rootV
        rw [if_pos hB, if_neg hz, hx])
      have hp1 : pw = 1 := by rw [hpw2, hs]; rfl
      rw [hp1] at hH
      have I0 : Hid (Obol.RootI (a % 288230376287764481).toNat _ _ _ _) := Lib.hid (Obol.RootI.start (a := a % 288230376287764481) (by rw [← hmod, ← Nat.pow_mod]; exact hs))
      have P1 := fun w => RPow 3 1099511628295 (by omega) (by omega) (by omega) w
      have P2 := fun w => RPow (a % 288230376287764481) 1099511628295 h1 (by omega) (by omega) w
      have P3 := fun w => RPow (a % 288230376287764481) 549755814148 h1 (by omega) (by omega) w
      have l1 : (1099511628295 : Int).toNat = Obol.oddR := by decide +kernel
      have l2 : (549755814148 : Int).toNat = Obol.oddH := by decide +kernel
      rw [l1, lit3] at P1
      rw [l1] at P2
      rw [l2] at P3
      generalize ((Obol.powR 3 Obol.oddR : Nat) : Int) = c at I0 P1
      generalize ((Obol.powR (a % 288230376287764481).toNat Obol.oddR : Nat) : Int) = t at I0 P2
      generalize ((Obol.powR (a % 288230376287764481).toNat Obol.oddH : Nat) : Int) = x at I0 P3
      have hD : Hid (∀ c x w : Int, Obol.RootI (a % 288230376287764481).toNat c 1 x w → 0 ≤ x ∧ x < 288230376287764481 ∧ RootI' a.toNat (min x (288230376287764481 - x))) := Lib.hid (fun c x w h => by
        have hq := h.done (by unfold Obol.sqB; rw [← hmod, Nat.mod_mod, ← Nat.pow_mod, hs]; simp) (by rw [← hmod, Nat.mod_mod]; exact hz)
        refine ⟨h.x0, hq.1, ?_⟩
        unfold RootI'
        have hr : Obol.rootN (a % 288230376287764481).toNat = Obol.rootN a.toNat := by
          have hb : Obol.sqB (a % 288230376287764481).toNat = true := by unfold Obol.sqB; rw [← hmod, Nat.mod_mod, ← Nat.pow_mod, hs]; simp
          exact Obol.rootN_is hB (Obol.rootN_ok hb).1 ((Obol.rootN_ok hb).2.trans (by rw [← hmod, Nat.mod_mod]))
        rw [← hr, ← hq.2]
        have hl := hq.1
        rw [Obol.R_def] at *
        split <;> omega)
      replace hH := Lib.hid hH
      replace P1 := Lib.hid P1
      replace P2 := Lib.hid P2
      replace P3 := Lib.hid P3
      generalize a % 288230376287764481 = m at *
      clear hsq hz hB hs hp1 hpw2 hpw l1 l2 hmod hy
      go_enter Try.func97, Try.ntmps97
      go_wp2_with (go_at_call 71; refine (hH.out _).mono ?_; rintro e w' ⟨rfl, n, rfl⟩)
      go_loop [4, 5] (fun o c => ∃ O T : Int, o = .int .u64 O ∧ c = .int .i64 T ∧ Hid (OddI O T)) (fun _ c => (18 - intOf c).toNat)
      case atStart => exact ⟨288230376287764480, 0, rfl, rfl, Lib.hid ⟨by omega, by omega, by decide⟩⟩
      case round =>
        obtain ⟨O, T, rfl, rfl, HO⟩ := hrel
        have t0 := HO.out.t0
        have t1 := HO.out.t1
        obtain ⟨o0, o1⟩ := HO.out.pos
        by_cases ht : T < 18
        · have HN := Lib.hid (HO.out.step ht).2
          have hm2 := (HO.out.step ht).1
          go_wp2_with fail
          go_round
          case rel => exact ⟨_, _, rfl, rfl, HN⟩
          case measure => simp [intOf]; omega
        · obtain rfl : T = 18 := by omega
          obtain rfl := HO.out.last
          go_wp2_with (first
            | (go_at_call_of 71 (Value.int IntKind.u64 3); refine (P1.out _).mono ?_; rintro e w' ⟨rfl, n1, rfl⟩)
            | (go_at_call_of 71 (Value.int IntKind.u64 1099511628295); refine (P2.out _).mono ?_; rintro e w' ⟨rfl, n2, rfl⟩)
            | (go_at_call_of 71 (Value.int IntKind.u64 549755814148); refine (P3.out _).mono ?_; rintro e w' ⟨rfl, n3, rfl⟩))
          clear hH P1 P2 P3 HO
          go_loopw [5, 6, 7, 8] (fun q1 q2 q3 q4 wr => ∃ v c t x : Int, q1 = .int .i64 v ∧ q2 = .int .u64 c ∧ q3 = .int .u64 t ∧ q4 = .int .u64 x ∧ Hid (Obol.RootI m.toNat c t x v) ∧ ∃ n, wr = w.drewN n) (fun q1 _ _ _ _ => (intOf q1).toNat)
          case atStart => exact ⟨18, c, t, x, rfl, rfl, rfl, rfl, I0, _, rfl⟩
          case round =>
            clear I0
            obtain ⟨v, c, t, x, rfl, rfl, rfl, rfl, HI, n, rfl⟩ := hrel
            have i1 := HI.out.c0
            have i2 := HI.out.t0
            have i3 := HI.out.x0
            have i4 := HI.out.w0
            have i5 := HI.out.w1
            by_cases ht : t = 1
            · subst ht
              obtain ⟨b1, b2, b3⟩ := hD.out _ _ _ HI.out
              have HF := Lib.hid (hR.out _ b3)
              clear b3
              go_wp2_with fail
              go_ret2
              exact ⟨congrArg Ending.returned HF.out, _, rfl⟩
            · have S0 := Lib.hid HI.out.inner
              have htb : (t != 1) = true := bne_iff_ne.2 ht
              replace ht := Lib.hid ht
              go_wp2_with fail
              go_loopw [9, 10] (fun q1 q2 wr => ∃ i s : Int, q1 = .int .i64 i ∧ q2 = .int .u64 s ∧ Hid (Obol.RootS t.toNat v.toNat i s) ∧ ∃ n, wr = w.drewN n) (fun q1 _ _ => (18 - intOf q1).toNat)
              case atStart => exact ⟨0, t, rfl, rfl, S0, _, rfl⟩
              case round =>
                clear S0
                obtain ⟨i, s, rfl, rfl, HS, n, rfl⟩ := hrel
                have k0 := HS.out.i0
                have k1 : i < v := by have := HS.out.i1; omega
                have k2 := HS.out.s0
                by_cases hs1 : s = 1
                · subst hs1
                  have B0 := Lib.hid (Obol.RootB.start (n := v - i - 1) HI.out (by omega))
                  go_wp2_with fail
                  go_loopw [11, 52] (fun q1 q2 wr => ∃ b j : Int, q1 = .int .u64 b ∧ q2 = .int .i64 j ∧ Hid (Obol.RootB c.toNat (v - i - 1) b j) ∧ ∃ n, wr = w.drewN n) (fun _ q2 _ => (18 - intOf q2).toNat)
                  case atStart => exact ⟨c, 0, rfl, rfl, B0, _, rfl⟩
                  case round =>
                    clear B0
                    obtain ⟨b, j, rfl, rfl, HB, n, rfl⟩ := hrel
                    have l0 := HB.out.j0
                    have l1 := HB.out.j1
                    have l2 := HB.out.b0
                    by_cases hj : j < v - i - 1
                    · have HN := Lib.hid (HB.out.step hj)
                      go_wp2_with (go_at_call 90; refine (RMul _ _ (by omega) (by omega) _).mono ?_; rintro e w' ⟨rfl, n', rfl⟩)
                      go_roundw
                      case rel => exact ⟨_, _, rfl, rfl, HN, _, rfl⟩
                      case measure => simp [intOf]; omega
                    · obtain ⟨hn1, hn2⟩ := HI.out.step HS.out ht.out rfl HB.out hj
                      have HN := Lib.hid hn1
                      clear hn1
                      go_wp2_with (go_at_call 90; refine (RMul _ _ (by omega) (by omega) _).mono ?_; rintro e w' ⟨rfl, n', rfl⟩)
                      go_roundw
                      case rel => exact ⟨_, _, _, _, rfl, rfl, rfl, rfl, HN, _, rfl⟩
                      case measure => simp [intOf]; omega
                · have HN := Lib.hid (HS.out.step HI.out hs1)
                  go_wp2_with (go_at_call 90; refine (RMul _ _ (by omega) (by omega) _).mono ?_; rintro e w' ⟨rfl, n', rfl⟩)
                  go_roundw
                  case rel => exact ⟨_, _, rfl, rfl, HN, _, rfl⟩
                  case measure => simp [intOf]; omega
    · have hB : Obol.sqB a.toNat = false := by rw [hsq, beq_eq_false_iff_ne]; exact hs
      have hR : Hid (Value.tuple #[Value.int .u64 0, errV 2] = rootV a.toNat) := Lib.hid (by
        unfold rootV
        rw [hB]
        rfl)
      have hp1 : pw ≠ 1 := by rw [hpw2]; omega
      replace hH := Lib.hid hH
      clear hmod hsq hz hpw hpw2 hs hB
      generalize a % 288230376287764481 = m at *
      go_enter Try.func97, Try.ntmps97
      go_wp2_with (go_at_call 71; refine (hH.out _).mono ?_; rintro e w' ⟨rfl, n, rfl⟩)
      go_ret2
      exact ⟨congrArg Ending.returned hR.out, n, rfl⟩

end Go.Proofs.Ytkfimfjjmdjbdaa
/- Walks: package edwards: the X of a Y. -/
namespace Go.Proofs.Ytkfimfjjmdjbdaa
open Go.RowKit

theorem root_zero {a : Nat} (h : a % Obol.R = 0) : Obol.rootN a = 0 := by
  have hs : Obol.sqB a = true := by unfold Obol.sqB; rw [h]; rfl
  exact (Obol.rootN_is hs (x := 0) (by omega) (by rw [h]; rfl)).symm
theorem rootV_yes {a : Nat} (h : Obol.sqB a = true) : rootV a = .tuple #[.int .u64 (Obol.rootN a : Nat), .nilIface] := by
  unfold rootV
  rw [if_pos h]
  split
  · rename_i h0
    rw [root_zero h0]
    rfl
  · rfl
theorem rootV_no {a : Nat} (h : Obol.sqB a = false) : rootV a = .tuple #[.int .u64 0, errV 2] := by
  unfold rootV
  rw [h]
  rfl

/-- What X times X is, at a Y. -/
noncomputable def sqY (y : Nat) : Nat := Obol.overR (Obol.subR (Obol.mulR y y) 1) (Obol.addR 1 (Obol.mulR 439 (Obol.mulR y y)))

theorem eSide (y : Int) (hy : 0 ≤ y) (w : World) :
    Calls Try.prog 85 #[.int .u64 y] w fun e w' => e = .returned (rootV (sqY y.toNat)) ∧ ∃ n, w' = w.drewN n := by
  have hq : sqY y.toNat = Obol.overR (Obol.subR (Obol.mulR y.toNat y.toNat) 1) (Obol.addR 1 (Obol.mulR 439 (Obol.mulR y.toNat y.toNat))) := rfl
  have hR := fun w => mRoot ((Obol.overR (Obol.subR (Obol.mulR y.toNat y.toNat) 1) (Obol.addR 1 (Obol.mulR 439 (Obol.mulR y.toNat y.toNat))) : Nat)) (by omega) w
  rw [Int.toNat_natCast, ← hq] at hR
  cases hs : Obol.sqB (sqY y.toNat)
  · rw [rootV_no hs] at hR ⊢
    replace hR := Lib.hid hR
    clear hs hq
    go_enter Try.func85, Try.ntmps85
    go_wp2_with (first | (go_at_call 97; refine (hR.out _).mono ?_; rintro e w' ⟨rfl, n, rfl⟩) | (go_at_call 66; refine (eMul _ _ (by omega) (by omega) _).mono ?_; rintro e w' ⟨rfl, n, rfl⟩) | (go_at_call 68; refine (RAdd _ _ (by omega) (by omega) _).mono ?_; rintro e w' ⟨rfl, n, rfl⟩) | (go_at_call 67; refine (RSub _ _ (by omega) (by omega) _).mono ?_; rintro e w' ⟨rfl, n, rfl⟩) | (go_at_call 98; refine (eOver _ _ (by omega) (by omega) _).mono ?_; rintro e w' ⟨rfl, n, rfl⟩))
    go_ret2
    exact ⟨rfl, _, rfl⟩
  · rw [rootV_yes hs] at hR ⊢
    replace hR := Lib.hid hR
    clear hs hq
    go_enter Try.func85, Try.ntmps85
    go_wp2_with (first | (go_at_call 97; refine (hR.out _).mono ?_; rintro e w' ⟨rfl, n, rfl⟩) | (go_at_call 66; refine (eMul _ _ (by omega) (by omega) _).mono ?_; rintro e w' ⟨rfl, n, rfl⟩) | (go_at_call 68; refine (RAdd _ _ (by omega) (by omega) _).mono ?_; rintro e w' ⟨rfl, n, rfl⟩) | (go_at_call 67; refine (RSub _ _ (by omega) (by omega) _).mono ?_; rintro e w' ⟨rfl, n, rfl⟩) | (go_at_call 98; refine (eOver _ _ (by omega) (by omega) _).mono ?_; rintro e w' ⟨rfl, n, rfl⟩))
    go_ret2
    exact ⟨rfl, _, rfl⟩

end Go.Proofs.Ytkfimfjjmdjbdaa
/- Bytes in memory. -/
namespace Obol
theorem or_low (a c : Nat) (h : c < 256) : a * 256 ||| c = a * 256 + c := by
  have := Nat.two_pow_add_eq_or_of_lt (i := 8) (b := c) (by omega) a
  rw [show (2 : Nat) ^ 8 = 256 from rfl] at this
  rw [Nat.mul_comm a 256, ← this]
end Obol
namespace Go.Proofs.Ytkfimfjjmdjbdaa
open Go.RowKit

/-- So many bytes. -/
structure B8 (n : Nat) (L : List Nat) : Prop where
  len : L.length = n
  lt : ∀ i, L.getD i 0 < 256
theorem B8.of {L : List Nat} (h : ∀ x ∈ L, x < 256) : B8 L.length L := ⟨rfl, fun i => by
  rw [List.getD_eq_getElem?_getD]
  cases h' : L[i]? with
  | none => exact Nat.zero_lt_of_lt (show 0 < 256 by decide)
  | some x => exact h x (List.mem_of_getElem? h')⟩
theorem B8.all {n : Nat} {L : List Nat} (h : B8 n L) : ∀ x ∈ L, x < 256 := fun x hx => by
  obtain ⟨i, hi, rfl⟩ := List.getElem_of_mem hx
  have := h.lt i
  rwa [List.getD_eq_getElem?_getD, List.getElem?_eq_getElem hi] at this

/-- The cells from o on are these bytes. -/
def BL (w : World) (b o : Nat) (L : List Nat) : Prop := ∀ i, i < L.length → w.cell? ⟨b, o + i, none⟩ = some (.int .u8 ((L.getD i 0 : Nat) : Int))
theorem BL.lt {w : World} {b o : Nat} {L : List Nat} (h : BL w b o L) (h0 : 0 < L.length) : b < w.heap.size := World.block_lt_of_cell? w ⟨b, o + 0, none⟩ (h 0 h0)
theorem BL.below {B : Nat} {w w' : World} {b o : Nat} {L : List Nat} (h : BL w b o L) (hb : Below B w w') (hB : b < B) : BL w' b o L := fun i hi => (hb.cell (p := ⟨b, o + i, none⟩) hB).trans (h i hi)
theorem BL.at {w : World} {b o : Nat} {L : List Nat} {n : Nat} (h : BL w b o L) (H : B8 n L) {i : Int} (h0 : 0 ≤ i) (h1 : i < n) :
    ∃ v : Int, w.cell? ⟨b, o + i.toNat, none⟩ = some (.int .u8 v) ∧ v = ((L.getD i.toNat 0 : Nat) : Int) ∧ 0 ≤ v ∧ v ≤ 255 :=
  ⟨_, h i.toNat (by rw [H.len]; omega), rfl, by omega, by have := H.lt i.toNat; omega⟩

theorem or_byte {n c : Int} (h0 : 0 ≤ n) (h1 : n < 72057594037927936) (c0 : 0 ≤ c) (c1 : c ≤ 255) : bits .or .u64 (n * 256) c = 256 * n + c := by
  obtain ⟨N, rfl⟩ := Int.eq_ofNat_of_zero_le h0
  obtain ⟨C, rfl⟩ := Int.eq_ofNat_of_zero_le c0
  have e : ((N : Int) * 256) = ((N * 256 : Nat) : Int) := by omega
  rw [e, u64_or_nat _ _ (by omega) (by omega), Obol.or_low _ _ (by omega)]
  omega
theorem and_63 {n : Int} (h0 : 0 ≤ n) (h1 : n ≤ 18446744073709551615) : bits .and .u64 n 9223372036854775807 = n % 9223372036854775808 := by
  obtain ⟨N, rfl⟩ := Int.eq_ofNat_of_zero_le h0
  have e : (9223372036854775807 : Int) = ((2 ^ 63 - 1 : Nat) : Int) := by decide
  rw [e, u64_and_nat _ _ (by omega) (by decide), Nat.and_two_pow_sub_one_eq_mod]
  omega
theorem and_1 {n : Int} (h0 : 0 ≤ n) (h1 : n ≤ 18446744073709551615) : bits .and .u64 n 1 = n % 2 := by
  obtain ⟨N, rfl⟩ := Int.eq_ofNat_of_zero_le h0
  have e : (1 : Int) = ((2 ^ 1 - 1 : Nat) : Int) := by decide
  rw [e, u64_and_nat _ _ (by omega) (by decide), Nat.and_two_pow_sub_one_eq_mod]
  omega

end Go.Proofs.Ytkfimfjjmdjbdaa
