import Derived.Test.YtcdfpceagobicaaDoorField
/- Points as pairs of numbers: the sum, multiples from the highest bit on, whether a pair is a point. -/
namespace Obol

/-- A thing behind a door that the kernel doesn't open. -/
noncomputable def shut {α : Type} (x : α) : { y : α // y = x } := Classical.choice ⟨⟨x, rfl⟩⟩
def mulQ (a b : Nat) : Nat := a * b % R
def addQ (a b : Nat) : Nat := (a + b) % R
def subQ (a b : Nat) : Nat := (a % R + R - b % R) % R
noncomputable def mulR : Nat → Nat → Nat := (shut mulQ).1
noncomputable def addR : Nat → Nat → Nat := (shut addQ).1
noncomputable def subR : Nat → Nat → Nat := (shut subQ).1
noncomputable def invR : Nat → Nat := (shut (fun b : Nat => b ^ (R - 2) % R)).1
theorem mulR_eq : mulR = mulQ := (shut mulQ).2
theorem addR_eq : addR = addQ := (shut addQ).2
theorem subR_eq : subR = subQ := (shut subQ).2
theorem invR_eq (b : Nat) : invR b = b ^ (R - 2) % R := congrFun (shut (fun b : Nat => b ^ (R - 2) % R)).2 b
noncomputable def overR (a b : Nat) : Nat := mulR a (invR b)

/-- A pair's point. -/
def Pnt.n (p : Pt) : Nat × Nat := (p.x.val, p.y.val)
theorem Pnt.n_inj {p q : Pt} (h : p.n = q.n) : p = q := by
  have h1 := congrArg Prod.fst h
  have h2 := congrArg Prod.snd h
  exact Pnt.ext (Fin.ext h1) (Fin.ext h2)

noncomputable def isN (p : Nat × Nat) : Bool :=
  decide (p.1 < R) && decide (p.2 < R) && decide (subR (mulR p.2 p.2) (mulR p.1 p.1) = addR 1 (mulR 439 (mulR (mulR p.1 p.1) (mulR p.2 p.2))))

def isQ (p : Nat × Nat) : Bool :=
  decide (p.1 < R) && decide (p.2 < R) && decide (subQ (mulQ p.2 p.2) (mulQ p.1 p.1) = addQ 1 (mulQ 439 (mulQ (mulQ p.1 p.1) (mulQ p.2 p.2))))
theorem isN_eq (p : Nat × Nat) : isN p = isQ p := by unfold isN isQ; rw [mulR_eq, addR_eq, subR_eq]

def zeroN : Nat × Nat := (0, 1)
theorem zero_n : (Pnt.zero : Pt).n = zeroN := by
  show ((0 : Fr).val, (1 : Fr).val) = (0, 1)
  rw [val_zero, val_one]

theorem lt_mod {a : Nat} (h : a < R) : a % R = a := Nat.mod_eq_of_lt h

/-- The field's words as numbers'. -/
theorem mulR_val (a b : Fr) : mulR a.val b.val = (a * b).val := by rw [mulR_eq]; rfl
theorem addR_val (a b : Fr) : addR a.val b.val = (a + b).val := by rw [addR_eq]; rfl
theorem subR_val (a b : Fr) : subR a.val b.val = (a - b).val := by
  rw [val_sub, subR_eq, subQ, lt_mod a.isLt, lt_mod b.isLt]
  congr 1
  have := a.isLt
  have := b.isLt
  omega
theorem d_val : K.d.val = 439 := by decide +kernel
theorem one_val : (1 : Fr).val = 1 := val_one
theorem overR_val (a b : Fr) : overR a.val b.val = (a * K.inv b).val := by
  rw [overR, invR_eq, ← finv_val]
  exact mulR_val a (finv b)

theorem on_iff (x y : Fr) : K.On x y ↔ isN (x.val, y.val) = true := by
  have e : isN (x.val, y.val) = decide ((y * y - x * x).val = (1 + K.d * (x * x * (y * y))).val) := by
    unfold isN
    rw [decide_eq_true x.isLt, decide_eq_true y.isLt, Bool.true_and, Bool.true_and]
    rw [mulR_val, mulR_val, subR_val, mulR_val, ← d_val, mulR_val]
    rw [← one_val, addR_val]
  rw [e, decide_eq_true_eq]
  unfold Ground.On
  have e2 : 1 + K.d * (x * x) * (y * y) = 1 + K.d * (x * x * (y * y)) := by grind
  rw [e2]
  exact ⟨fun h => by rw [h], fun h => Fin.ext h⟩

/-- What is a point's pair. -/
theorem isN_pt {p : Nat × Nat} (h : isN p = true) : ∃ q : Pt, q.n = p := by
  have h' := h
  unfold isN at h'
  simp only [Bool.and_eq_true, decide_eq_true_eq] at h'
  refine ⟨⟨⟨p.1, h'.1.1⟩, ⟨p.2, h'.1.2⟩, (on_iff _ _).2 h⟩, rfl⟩
theorem pt_isN (p : Pt) : isN p.n = true := (on_iff _ _).1 p.on

noncomputable def sureN (p : Nat × Nat) : Nat × Nat := if isN p then p else zeroN

noncomputable def sumN (p q : Nat × Nat) : Nat × Nat :=
  let x := mulR p.1 q.1
  let y := mulR p.2 q.2
  let k := mulR 439 (mulR x y)
  (overR (addR (mulR p.1 q.2) (mulR p.2 q.1)) (addR 1 k), overR (addR x y) (subR 1 k))

theorem sum_n (p q : Pt) : sumN p.n q.n = (p.add q).n := by
  unfold sumN Pnt.n
  simp only
  rw [mulR_val, mulR_val, mulR_val, mulR_val, mulR_val, ← d_val, mulR_val, ← one_val, addR_val, addR_val, addR_val, subR_val, overR_val, overR_val]
  unfold Pnt.add Pnt.dx Pnt.dy
  simp only
  have e1 : K.d * (p.x * q.x * (p.y * q.y)) = K.d * (p.x * q.x * p.y * q.y) := by grind
  have e2 : p.x * q.x + p.y * q.y = p.y * q.y + p.x * q.x := by grind
  rw [e1, e2]

/-- Multiples, from the highest bit on. -/
noncomputable def timesN (a : Nat × Nat) (k : Nat) : Nat → Nat × Nat → Nat × Nat
  | 0, out => out
  | j + 1, out =>
    let o := if out = zeroN then out else sumN out out
    timesN a k j (if k / 2 ^ j % 2 = 1 then sumN o a else o)

theorem sum_zero (p : Pt) : (Pnt.zero : Pt).add p = p := Pnt.zero_add p

theorem times_step (p : Pt) (k j : Nat) (o : Pt) (ho : o = Pnt.smul (k / 2 ^ (j + 1)) p) :
    (if k / 2 ^ j % 2 = 1 then sumN (if o.n = zeroN then o.n else sumN o.n o.n) p.n else (if o.n = zeroN then o.n else sumN o.n o.n)) = (Pnt.smul (k / 2 ^ j) p).n := by
  have hd : (if o.n = zeroN then o.n else sumN o.n o.n) = (o.add o).n := by
    split
    · rename_i h
      rw [← zero_n] at h
      rw [Pnt.n_inj h, sum_zero]
    · exact sum_n o o
  have hk : k / 2 ^ j = k / 2 ^ (j + 1) + k / 2 ^ (j + 1) + k / 2 ^ j % 2 := by
    have : k / 2 ^ (j + 1) = k / 2 ^ j / 2 := by rw [Nat.pow_succ, Nat.div_div_eq_div_mul]
    rw [this]
    omega
  rw [hd]
  by_cases hb : k / 2 ^ j % 2 = 1
  · rw [if_pos hb, sum_n]
    conv => rhs; rw [hk, hb, Pnt.smul_add, Pnt.smul_add, Pnt.smul_one, ← ho]
  · have : k / 2 ^ j % 2 = 0 := by omega
    rw [if_neg hb]
    conv => rhs; rw [hk, this, Nat.add_zero, Pnt.smul_add, ← ho]

theorem times_from (p : Pt) (k : Nat) : ∀ (j : Nat) (o : Pt), o = Pnt.smul (k / 2 ^ j) p → timesN p.n k j o.n = (Pnt.smul k p).n
  | 0, o, ho => by
    rw [Nat.pow_zero, Nat.div_one] at ho
    rw [timesN, ho]
  | j + 1, o, ho => by
    unfold timesN
    simp only
    rw [times_step p k j o ho]
    exact times_from p k j _ rfl

theorem times_n (p : Pt) (k : Nat) (hk : k < 2 ^ 64) : timesN p.n k 64 zeroN = (Pnt.smul k p).n := by
  rw [← zero_n]
  exact times_from p k 64 Pnt.zero (by rw [Nat.div_eq_of_lt hk]; rfl)

/-! quick ones, for the kernel -/
def sumQ (p q : Nat × Nat) : Nat × Nat :=
  let x := mulQ p.1 q.1
  let y := mulQ p.2 q.2
  let k := mulQ 439 (mulQ x y)
  (mulQ (addQ (mulQ p.1 q.2) (mulQ p.2 q.1)) (powm R 64 (addQ 1 k) (R - 2)), mulQ (addQ x y) (powm R 64 (subQ 1 k) (R - 2)))
theorem sumQ_eq (p q : Nat × Nat) : sumQ p q = sumN p q := by
  unfold sumQ sumN overR
  simp only
  rw [invR_eq, invR_eq, powm_eq R 64 _ _ (by decide +kernel), powm_eq R 64 _ _ (by decide +kernel), mulR_eq, addR_eq, subR_eq]

def timesQ (a : Nat × Nat) (k : Nat) : Nat → Nat × Nat → Nat × Nat
  | 0, out => out
  | j + 1, out => timesQ a k j (if k / 2 ^ j % 2 = 1 then sumQ (sumQ out out) a else sumQ out out)
theorem timesQ_from (p : Pt) (k : Nat) : ∀ (j : Nat) (o : Pt), o = Pnt.smul (k / 2 ^ j) p → timesQ p.n k j o.n = (Pnt.smul k p).n
  | 0, o, ho => by
    rw [Nat.pow_zero, Nat.div_one] at ho
    rw [timesQ, ho]
  | j + 1, o, ho => by
    unfold timesQ
    have h := times_step p k j o ho
    have hd : (if o.n = zeroN then o.n else sumN o.n o.n) = sumN o.n o.n := by
      split
      · rename_i e
        rw [← zero_n] at e
        rw [Pnt.n_inj e, sum_n, sum_zero]
      · rfl
    rw [hd] at h
    rw [sumQ_eq, sumQ_eq, h]
    exact timesQ_from p k j _ rfl
theorem timesQ_n (p : Pt) (k b : Nat) (hk : k < 2 ^ b) : timesQ p.n k b zeroN = (Pnt.smul k p).n := by
  rw [← zero_n]
  exact timesQ_from p k b Pnt.zero (by rw [Nat.div_eq_of_lt hk]; rfl)

/-- The sum of two points X / Z, Y / Z. -/
noncomputable def togN (a b : Nat × Nat × Nat) : Nat × Nat × Nat :=
  let z := mulR a.2.2 b.2.2
  let z2 := mulR z z
  let x := mulR a.1 b.1
  let y := mulR a.2.1 b.2.1
  let k := mulR 439 (mulR x y)
  let up := addR z2 k
  let down := subR z2 k
  let cross := addR (mulR a.1 b.2.1) (mulR a.2.1 b.1)
  (mulR (mulR z cross) down, mulR (mulR z (addR x y)) up, mulR up down)

/-- What is handed in, as a point. -/
noncomputable def Pnt.of (p : Nat × Nat) : Pt := if h : isN p = true then ⟨⟨p.1, by unfold isN at h; simp only [Bool.and_eq_true, decide_eq_true_eq] at h; exact h.1.1⟩, ⟨p.2, by unfold isN at h; simp only [Bool.and_eq_true, decide_eq_true_eq] at h; exact h.1.2⟩, (on_iff _ _).2 h⟩ else Pnt.zero
theorem sure_n (p : Nat × Nat) : sureN p = (Pnt.of p).n := by
  unfold sureN Pnt.of
  by_cases h : isN p = true
  · rw [if_pos h, dif_pos h]
    rfl
  · rw [if_neg h, dif_neg h, zero_n]
theorem of_n (p : Pt) : Pnt.of p.n = p := by
  refine Pnt.n_inj ?_
  rw [← sure_n, sureN, if_pos (pt_isN p)]

/-- Three numbers that stand for a point. -/
structure Sc (t : Nat × Nat × Nat) (p : Pt) : Prop where
  x1 : t.1 < R
  y1 : t.2.1 < R
  z1 : t.2.2 < R
  sc : Scaled (⟨t.1, x1⟩ : Fr) ⟨t.2.1, y1⟩ ⟨t.2.2, z1⟩ p

theorem mulR_lt (a b : Nat) : mulR a b < R := by rw [mulR_eq]; exact Nat.mod_lt _ R_pos
theorem Sc.tog {a b : Nat × Nat × Nat} {p q : Pt} (h : Sc a p) (h' : Sc b q) : Sc (togN a b) (p.add q) := by
  refine ⟨mulR_lt _ _, mulR_lt _ _, mulR_lt _ _, ?_⟩
  have e := h.sc.tog h'.sc
  generalize hx : (⟨a.1, h.x1⟩ : Fr) = x at e
  generalize hy : (⟨a.2.1, h.y1⟩ : Fr) = y at e
  generalize hz : (⟨a.2.2, h.z1⟩ : Fr) = z at e
  generalize hx' : (⟨b.1, h'.x1⟩ : Fr) = x' at e
  generalize hy' : (⟨b.2.1, h'.y1⟩ : Fr) = y' at e
  generalize hz' : (⟨b.2.2, h'.z1⟩ : Fr) = z' at e
  have ha : a = (x.val, y.val, z.val) := by rw [← hx, ← hy, ← hz]
  have hb : b = (x'.val, y'.val, z'.val) := by rw [← hx', ← hy', ← hz']
  have ht : togN a b = ((z * z' * (x * y' + y * x') * (z * z' * (z * z') - K.d * (x * x' * (y * y')))).val, (z * z' * (x * x' + y * y') * (z * z' * (z * z') + K.d * (x * x' * (y * y')))).val,
      ((z * z' * (z * z') + K.d * (x * x' * (y * y'))) * (z * z' * (z * z') - K.d * (x * x' * (y * y')))).val) := by
    rw [ha, hb]
    unfold togN
    simp only [mulR_val, addR_val, ← d_val, subR_val]
  have h1 := congrArg (·.1) ht
  have h2 := congrArg (·.2.1) ht
  have h3 := congrArg (·.2.2) ht
  simp only at h1 h2 h3
  simp only [h1, h2, h3]
  exact e
theorem Sc.one (p : Pt) : Sc (p.x.val, p.y.val, 1) p := ⟨p.x.isLt, p.y.isLt, (by show 1 < R; decide +kernel), by
  have h := Scaled.one p
  have e : (⟨1, by decide +kernel⟩ : Fr) = 1 := Fin.ext (by rw [val_one])
  show Scaled p.x p.y (⟨1, _⟩ : Fr) p
  rw [e]
  exact h⟩
theorem Sc.zero : Sc (0, 1, 1) Pnt.zero := by
  have h := Sc.one Pnt.zero
  have e := zero_n
  unfold Pnt.n zeroN at e
  have e1 := congrArg Prod.fst e
  have e2 := congrArg Prod.snd e
  simp only at e1 e2
  rw [e1, e2] at h
  exact h
theorem inv_val (z : Fr) : invR z.val = (K.inv z).val := by
  have h : K.inv z = finv z := rfl
  rw [invR_eq, h, finv_val]
theorem Sc.out {t : Nat × Nat × Nat} {p : Pt} (h : Sc t p) : (mulR t.1 (invR t.2.2), mulR t.2.1 (invR t.2.2)) = p.n := by
  obtain ⟨e1, e2⟩ := h.sc.out
  have hv : invR t.2.2 = _ := inv_val (⟨t.2.2, h.z1⟩ : Fr)
  have hx : mulR t.1 _ = _ := mulR_val (⟨t.1, h.x1⟩ : Fr) (K.inv (⟨t.2.2, h.z1⟩ : Fr))
  have hy : mulR t.2.1 _ = _ := mulR_val (⟨t.2.1, h.y1⟩ : Fr) (K.inv (⟨t.2.2, h.z1⟩ : Fr))
  rw [hv]
  unfold Pnt.n
  rw [← e1, ← e2, ← hx, ← hy]

/-- What is known ahead of each round of a multiple: what is gathered, what is added, how often. -/
structure MulInv (a : Pt) (k : Nat) (o b : Nat × Nat × Nat) (en : Nat) : Prop where
  ex : ∃ p q : Pt, Sc o p ∧ Sc b q ∧ p.add (Pnt.smul en q) = Pnt.smul k a
theorem MulInv.start (a : Pt) (k : Nat) : MulInv a k (0, 1, 1) (a.x.val, a.y.val, 1) k := ⟨Pnt.zero, a, Sc.zero, Sc.one a, Pnt.zero_add _⟩
theorem smul_half (en : Nat) (q : Pt) : Pnt.smul en q = (Pnt.smul (en % 2) q).add (Pnt.smul (en / 2) (q.add q)) := by
  have h : q.add q = Pnt.smul 2 q := by
    show _ = (Pnt.smul 1 q).add q
    rw [Pnt.smul_one]
  rw [h, ← Pnt.smul_mul, ← Pnt.smul_add]
  congr 1
  omega
theorem MulInv.one {a : Pt} {k : Nat} {o b : Nat × Nat × Nat} {en : Nat} (h : MulInv a k o b en) (ho : en % 2 = 1) : MulInv a k (togN o b) (togN b b) (en / 2) := by
  obtain ⟨p, q, hp, hq, e⟩ := h.ex
  refine ⟨p.add q, q.add q, hp.tog hq, hq.tog hq, ?_⟩
  rw [smul_half, ho, Pnt.smul_one, ← Pnt.add_assoc] at e
  exact e
theorem MulInv.zero {a : Pt} {k : Nat} {o b : Nat × Nat × Nat} {en : Nat} (h : MulInv a k o b en) (ho : en % 2 = 0) : MulInv a k o (togN b b) (en / 2) := by
  obtain ⟨p, q, hp, hq, e⟩ := h.ex
  refine ⟨p, q.add q, hp, hq.tog hq, ?_⟩
  rw [smul_half, ho] at e
  have e : p.add (Pnt.zero.add (Pnt.smul (en / 2) (q.add q))) = Pnt.smul k a := e
  rwa [Pnt.zero_add] at e
theorem MulInv.done {a : Pt} {k : Nat} {o b : Nat × Nat × Nat} (h : MulInv a k o b 0) : (mulR o.1 (invR o.2.2), mulR o.2.1 (invR o.2.2)) = (Pnt.smul k a).n := by
  obtain ⟨p, q, hp, hq, e⟩ := h.ex
  have e : p.add Pnt.zero = Pnt.smul k a := e
  rw [Pnt.add_zero] at e
  rw [← e]
  exact hp.out

/-- So often whatever. -/
noncomputable def smulN : Nat × Nat → Nat → Nat × Nat := (shut fun (p : Nat × Nat) (k : Nat) => (Pnt.smul k (Pnt.of p)).n).1
theorem smulN_eq (p : Nat × Nat) (k : Nat) : smulN p k = (Pnt.smul k (Pnt.of p)).n := congrFun (congrFun (shut fun (p : Nat × Nat) (k : Nat) => (Pnt.smul k (Pnt.of p)).n).2 p) k

end Obol
