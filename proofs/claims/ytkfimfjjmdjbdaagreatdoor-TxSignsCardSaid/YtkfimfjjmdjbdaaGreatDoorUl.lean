import Derived.Test.YtkfimfjjmdjbdaaGreatDoorUk
import Derived.Deep.CutBlock
import Derived.Deep.DeepCutAuto
set_option linter.unusedVariables false
set_option linter.unusedSimpArgs false
set_option linter.unusedSectionVars false
/- Walks: package tx: whether a transaction may be. -/
namespace Go.Proofs.YtkfimfjjmdjbdaaGreatDoor
open Go.RowKit
set_option linter.unusedVariables false

section
variable {P : Program} {ops : List Oper} {Q : Exit → Act → World → Prop} {md : Region.Mode} {S : World → Prop}
theorem st (i : Nat) {oi : Oper} {fuel : Nat} {listed : Array Bool} {a : Act} {w : World} (h : ∀ K' : Act → World → Prop, Shut (∀ a w, S w → (S w → wpAnyH P md ops.toArray Q S fuel (listed.setIfInBounds i true) a w) → K' a w) → Oper.wp P oi a w K' Q)
    (hr : Region.ready md ops.toArray listed = [i] := by kernel_rfl) (hi : ops[i]? = some oi := by exact rfl) (hw : Region.wanted oi (yielded ops.toArray a.tmps) = true := by rfl) : wpAnyH P md ops.toArray Q S (fuel + 1) listed a w := stepH i hr hi hw h
end
theorem tZero (w : World) : Calls Tryz.prog 48 #[] w fun e w' => e = .returned (.agg #[.int .u64 0, .int .u64 1]) ∧ Below w.heap.size w w' := by
  go_enter Tryz.func48, Tryz.ntmps48
  go_wp2_with fail
  refine bodyPost_ret (v := edV 0 1) (by simp [results, Tryz.results48, go_sem]) rfl ⟨rfl, ?_⟩
  repeat (first | exact Below.refl _ _ | assumption | apply bDrewN | apply bDrew | apply bAlloc | refine bSet ?_ (by omega) | refine bThen ?_ (by assumption) (by simp <;> omega))
theorem tUnsigned (w : World) : Calls Tryz.prog 21 #[] w fun e w' => e = .returned (.agg #[.int .u64 0, .int .u64 1, .int .u64 0]) ∧ Below w.heap.size w w' := by
  go_enter Tryz.func21, Tryz.ntmps21
  go_wp2_with fail
  refine (tZero _).mono ?_
  rintro e w1 ⟨rfl, hb⟩
  have R := (Row.new w #[.int .u64 0, .int .u64 0, .int .u64 0] 35).below hb (by simp)
  have B := bThen (bAlloc (Below.refl w.heap.size w) _) hb (by simp)
  have g0 := R.cell 0 rfl
  have g1 := R.cell 1 rfl
  have g2 := R.cell 2 rfl
  have f0 := R.free 0
  have f1 := R.free 1
  have f2 := R.free 2
  have hS := R.set3 (v0 := .int .u64 0) (v1 := .int .u64 1) (v2 := .int .u64 0)
  have s0 := hS.cell 0 rfl
  have s1 := hS.cell 1 rfl
  have s2 := hS.cell 2 rfl
  have hL := Lib.hid (bSet (bSet (bSet B (b := w.heap.size) (o := 0) (u := .int .u64 0) (by omega)) (b := w.heap.size) (o := 1) (u := .int .u64 1) (by omega)) (b := w.heap.size) (o := 2) (u := .int .u64 0) (by omega))
  clear hb B R hS
  go_wp2_with fail
  refine bodyPost_ret (v := .agg #[.int .u64 0, .int .u64 1, .int .u64 0]) (by simp [results, Tryz.results21, go_sem, s0, s1, s2]) rfl ⟨rfl, hL.out⟩

def numsL (t : TxD) : List Nat := [t.root.toNat, t.e0.toNat, t.e1.toNat, t.m0.toNat, t.m1.toNat, t.a0.toNat, t.a1.toNat]
def c1 (t : TxD) : Bool := !(numsL t).any bigN && (decide (t.inn < 4294967296) && (decide (t.out < 4294967296) && decide (t.seq ≤ 1125899906842624)))
def zeroB (x y : Int) : Bool := x == 0 && y == 1
theorem zero_if (x y : Int) (wz : World) : (if x = 0 then if y = 1 then Result.ok (Next.value (Value.bool true)) wz else Result.ok (Next.value (Value.bool false)) wz else Result.ok (Next.value (Value.bool false)) wz) = Result.ok (Next.value (.bool (zeroB x y))) wz := by
  unfold zeroB
  by_cases h1 : x = 0
  · by_cases h2 : y = 1
    · simp [h1, h2]
    · simp [h1, h2]
  · simp [h1]
theorem nzero_if (x y : Int) (wz : World) : (if x = 0 then if y = 1 then Result.ok (Next.value (Value.bool false)) wz else Result.ok (Next.value (Value.bool true)) wz else Result.ok (Next.value (Value.bool true)) wz) = Result.ok (Next.value (.bool (!zeroB x y))) wz := by
  unfold zeroB
  by_cases h1 : x = 0
  · by_cases h2 : y = 1
    · simp [h1, h2]
    · simp [h1, h2]
  · simp [h1]
theorem zeroB_no {x y : Int} (h : zeroB x y = false) : x = 0 → ¬ y = 1 := fun h1 h2 => by subst h1 h2; cases h
noncomputable def c2 (t : TxD) : Bool := inN (t.fx.toNat, t.fy.toNat) && (inN (t.tx.toNat, t.ty.toNat) && ((zeroB t.fx t.fy == (t.inn == 0)) && (zeroB t.tx t.ty == (t.out == 0))))
noncomputable def c3 (x y : Int) (l : Nat) : Bool := inN (x.toNat, y.toNat) && (!zeroB x y && decide (l = 32))
noncomputable def c4 (t : TxD) : Bool := inPt t.ia t.xa t.ya && (inPt t.ib t.xb t.yb && (inPt t.ic t.xc t.yc && (inN (t.gx.toNat, t.gy.toNat) && decide (t.gz < 72057593894066549))))
def c5 (t : TxD) : Bool := t.inn == 0 && (t.seq != 0 || !(t.gx == 0 && (t.gy == 1 && t.gz == 0)))
/-- May it be? -/
noncomputable def mayB (t : TxD) : Bool := c1 t && (c2 t && (c3 t.n0x t.n0y t.l0 && (c3 t.n1x t.n1y t.l1 && (c4 t && !c5 t))))
noncomputable def okJ (t : TxD) (b : Bool) : Nat → Bool
  | 0 => b
  | 1 => b && c3 t.n0x t.n0y t.l0
  | _ => (b && c3 t.n0x t.n0y t.l0) && c3 t.n1x t.n1y t.l1
theorem idx_n0 (a b c d e f : Value) (W : World) : (Instr.index 29 (.agg #[a, b, c, d, e, f]) (.int .i64 0)).run Tryz.prog W = .ok (.agg #[a, b, c]) W := by kernel_rfl
theorem idx_n1 (a b c d e f : Value) (W : World) : (Instr.index 29 (.agg #[a, b, c, d, e, f]) (.int .i64 1)).run Tryz.prog W = .ok (.agg #[d, e, f]) W := by kernel_rfl
theorem sig_if (x y z : Int) (wz : World) : (if x = 0 then if y = 1 then if z = 0 then Result.ok (Next.value (Value.bool false)) wz else Result.ok (Next.value (Value.bool true)) wz else Result.ok (Next.value (Value.bool true)) wz else Result.ok (Next.value (Value.bool true)) wz) = Result.ok (Next.value (.bool (!(x == 0 && (y == 1 && z == 0))))) wz := by
  by_cases h1 : x = 0
  · by_cases h2 : y = 1
    · by_cases h3 : z = 0
      · simp [h1, h2, h3]
      · simp [h1, h2, h3]
    · simp [h1, h2]
  · simp [h1]
theorem sig_no {x y z : Int} (h : (!(x == 0 && (y == 1 && z == 0))) = true) : x = 0 → y = 1 → ¬ z = 0 := fun h1 h2 h3 => by subst h1 h2 h3; cases h
def ChkSaid (b : Bool) (w : World) (e : Ending) (w' : World) : Prop := e = .returned (if b = true then .nilIface else errV 1) ∧ Below w.heap.size w w'
theorem c1_parts {t : TxD} (h : c1 t = true) : (numsL t).any bigN = false ∧ t.inn < 4294967296 ∧ t.out < 4294967296 ∧ t.seq ≤ 1125899906842624 := by
  unfold c1 at h
  simpa only [Bool.and_eq_true, Bool.not_eq_true', decide_eq_true_eq] using h
theorem c2_parts {t : TxD} (h : c2 t = true) : inN (t.fx.toNat, t.fy.toNat) = true ∧ inN (t.tx.toNat, t.ty.toNat) = true ∧ (zeroB t.fx t.fy == (t.inn == 0)) = true ∧ (zeroB t.tx t.ty == (t.out == 0)) = true := by
  unfold c2 at h
  simpa only [Bool.and_eq_true] using h
theorem c3_parts {x y : Int} {l : Nat} (h : c3 x y l = true) : inN (x.toNat, y.toNat) = true ∧ zeroB x y = false ∧ l = 32 := by
  unfold c3 at h
  simpa only [Bool.and_eq_true, Bool.not_eq_true', decide_eq_true_eq] using h
theorem c4_parts {t : TxD} (h : c4 t = true) : inPt t.ia t.xa t.ya = true ∧ inPt t.ib t.xb t.yb = true ∧ inPt t.ic t.xc t.yc = true ∧ inN (t.gx.toNat, t.gy.toNat) = true ∧ t.gz < 72057593894066549 := by
  unfold c4 at h
  simpa only [Bool.and_eq_true, decide_eq_true_eq] using h
theorem parts_ok (t : TxD) (h : TxOk t) (w W : World) (b1 g : Nat) (hR : Row W b1 (txC t) 37) (hG : Row W g #[.int .u64 t.root] 22) : ∀ j (hj : j < (([⟨g, 0, 1, 1, [t.root.toNat]⟩, ⟨b1, 8, 2, 2, [t.e0.toNat, t.e1.toNat]⟩, ⟨b1, 10, 2, 2, [t.m0.toNat, t.m1.toNat]⟩, ⟨b1, 18, 2, 2, [t.a0.toNat, t.a1.toNat]⟩] : List Part)).length), ((([⟨g, 0, 1, 1, [t.root.toNat]⟩, ⟨b1, 8, 2, 2, [t.e0.toNat, t.e1.toNat]⟩, ⟨b1, 10, 2, 2, [t.m0.toNat, t.m1.toNat]⟩, ⟨b1, 18, 2, 2, [t.a0.toNat, t.a1.toNat]⟩] : List Part))[j]).L.length = ((([⟨g, 0, 1, 1, [t.root.toNat]⟩, ⟨b1, 8, 2, 2, [t.e0.toNat, t.e1.toNat]⟩, ⟨b1, 10, 2, 2, [t.m0.toNat, t.m1.toNat]⟩, ⟨b1, 18, 2, 2, [t.a0.toNat, t.a1.toNat]⟩] : List Part))[j]).n ∧ UL W ((([⟨g, 0, 1, 1, [t.root.toNat]⟩, ⟨b1, 8, 2, 2, [t.e0.toNat, t.e1.toNat]⟩, ⟨b1, 10, 2, 2, [t.m0.toNat, t.m1.toNat]⟩, ⟨b1, 18, 2, 2, [t.a0.toNat, t.a1.toNat]⟩] : List Part))[j]).g ((([⟨g, 0, 1, 1, [t.root.toNat]⟩, ⟨b1, 8, 2, 2, [t.e0.toNat, t.e1.toNat]⟩, ⟨b1, 10, 2, 2, [t.m0.toNat, t.m1.toNat]⟩, ⟨b1, 18, 2, 2, [t.a0.toNat, t.a1.toNat]⟩] : List Part))[j]).o ((([⟨g, 0, 1, 1, [t.root.toNat]⟩, ⟨b1, 8, 2, 2, [t.e0.toNat, t.e1.toNat]⟩, ⟨b1, 10, 2, 2, [t.m0.toNat, t.m1.toNat]⟩, ⟨b1, 18, 2, 2, [t.a0.toNat, t.a1.toNat]⟩] : List Part))[j]).L ∧ ((([⟨g, 0, 1, 1, [t.root.toNat]⟩, ⟨b1, 8, 2, 2, [t.e0.toNat, t.e1.toNat]⟩, ⟨b1, 10, 2, 2, [t.m0.toNat, t.m1.toNat]⟩, ⟨b1, 18, 2, 2, [t.a0.toNat, t.a1.toNat]⟩] : List Part))[j]).g < W.heap.size := by
  intro j hj
  have two : ∀ (o : Nat) (x y : Int), 0 ≤ x → 0 ≤ y → W.cell? ⟨b1, o, none⟩ = some (.int .u64 x) → W.cell? ⟨b1, o + 1, none⟩ = some (.int .u64 y) → UL W b1 o [x.toNat, y.toNat] := fun o x y hx hy h1 h2 i hi => by
    match i, hi with
    | 0, _ =>
      show W.cell? ⟨b1, o, none⟩ = some (.int .u64 ((x.toNat : Nat) : Int))
      rw [Int.toNat_of_nonneg hx]; exact h1
    | 1, _ =>
      show W.cell? ⟨b1, o + 1, none⟩ = some (.int .u64 ((y.toNat : Nat) : Int))
      rw [Int.toNat_of_nonneg hy]; exact h2
  match j, hj with
  | 0, _ => exact ⟨rfl, fun i hi => by
      obtain rfl : i = 0 := Nat.lt_one_iff.1 hi
      show W.cell? ⟨g, 0, none⟩ = some (.int .u64 ((t.root.toNat : Nat) : Int))
      rw [Int.toNat_of_nonneg h.root0]; exact hG.cell 0 rfl, hG.lt⟩
  | 1, _ => exact ⟨rfl, two 8 t.e0 t.e1 h.e00 h.e10 (hR.cell 8 rfl) (hR.cell 9 rfl), hR.lt⟩
  | 2, _ => exact ⟨rfl, two 10 t.m0 t.m1 h.m00 h.m10 (hR.cell 10 rfl) (hR.cell 11 rfl), hR.lt⟩
  | 3, _ => exact ⟨rfl, two 18 t.a0 t.a1 h.a00 h.a10 (hR.cell 18 rfl) (hR.cell 19 rfl), hR.lt⟩

end Go.Proofs.YtkfimfjjmdjbdaaGreatDoor
/- Walks: package tx: whether a transaction may be. -/
namespace Go.Proofs.YtkfimfjjmdjbdaaGreatDoor
open Go.RowKit
set_option linter.unusedVariables false

set_option maxRecDepth 100000 in
set_option maxHeartbeats 100000000 in
theorem tCheckA (t : TxD) (h : TxOk t) (hA0 : (c1 t && c2 t) = false) (w : World) : Calls Tryz.prog 20 #[txV t] w (ChkSaid false w) := by
 go_enter Tryz.func20, Tryz.ntmps20
 go_upto_region 1 with fail
 have H0 := (HR.refl w).new (txC t) 37
 have hlt1 := H0.lt (b := w.heap.size) (cs := (txC t)) (t := 37) (by simp)
 generalize w.alloc (.cells (txC t) 37) = w2 at H0 hlt1 ⊢
 generalize hb1 : w.heap.size = b1 at H0 hlt1 ⊢
 have hbs : Hid (w.heap.size = b1 ∧ b1 < w2.heap.size) := Lib.hid ⟨hb1, hlt1⟩
 have H1 : Hid (HR w w2 [(b1, (txC t), 37)]) := Lib.hid H0
 clear hb1 H0 hlt1
 have hAA := Lib.hid hA0
 clear hA0
 have hok := Lib.hid h
 clear h
 refine wp_region_noPanic ?_
 refine wp_region_held_drew (S := fun wq => wq.cell? ⟨b1, 0, none⟩ = some (.int .u64 t.root) ∧ HR w wq [(b1, (txC t), 37)]) (by kernel_rfl) ?_ (fun hHeld => ?_)
 ·have hq0 := HR.drew H1.out
  exact ⟨kT b1 t hq0 0, hq0⟩
 refine tk 0 hHeld ?_; refine tk 1 hHeld ?_; refine tk 3 hHeld ?_; refine tk 4 hHeld ?_; refine tk 5 hHeld ?_; refine tk 6 hHeld ?_; refine tk 7 hHeld ?_; refine tk 8 hHeld ?_
 refine st 2 fun K hK => ?_
 go_simp
 refine hK.out _ _ ?_ (fun hHeld => ?_)
 ·exact ⟨kT b1 t (HR.alloc hHeld.2 _) 0, (HR.alloc hHeld.2 _)⟩
 clear hK K
 try simp only [Act.put, List.setIfInBounds_toArray, List.set_cons_zero, List.set_cons_succ]
 refine st 9 fun K hK => ?_
 go_simp
 refine hK.out _ _ ?_ (fun hHeld => ?_)
 ·exact ⟨kT b1 t (HR.alloc hHeld.2 _) 0, (HR.alloc hHeld.2 _)⟩
 clear hK K
 try simp only [Act.put, List.setIfInBounds_toArray, List.set_cons_zero, List.set_cons_succ]
 have hlt2 := hbs.out.2
 have cC0 := (uConcat (w2.heap.size + 1) 4 4 [⟨w2.heap.size, 0, 1, 1, [t.root.toNat]⟩, ⟨b1, 8, 2, 2, [t.e0.toNat, t.e1.toNat]⟩, ⟨b1, 10, 2, 2, [t.m0.toNat, t.m1.toNat]⟩, ⟨b1, 18, 2, 2, [t.a0.toNat, t.a1.toNat]⟩] rfl (by decide) ((w2.drew.alloc (.cells #[.int .u64 t.root] 22)).alloc (.cells #[.slice (some ⟨w2.heap.size, 0, none⟩) 1 1, .slice (some ⟨b1, 8, none⟩) 2 2, .slice (some ⟨b1, 10, none⟩) 2 2, .slice (some ⟨b1, 18, none⟩) 2 2] 44)) (by
  have h := Row.new (w2.drew.alloc (.cells #[.int .u64 t.root] 22)) #[.slice (some ⟨w2.heap.size, 0, none⟩) 1 1, .slice (some ⟨b1, 8, none⟩) 2 2, .slice (some ⟨b1, 10, none⟩) 2 2, .slice (some ⟨b1, 18, none⟩) 2 2] 44
  rw [World.size_alloc] at h
  exact h) (parts_ok t hok.out w _ b1 w2.heap.size (hHeld.2.row (by simp)) ((Row.new _ _ _).alloc _)) (show 0 < 7 by decide) (show 7 ≤ 1000 by decide))
 rw [show catL [⟨w2.heap.size, 0, 1, 1, [t.root.toNat]⟩, ⟨b1, 8, 2, 2, [t.e0.toNat, t.e1.toNat]⟩, ⟨b1, 10, 2, 2, [t.m0.toNat, t.m1.toNat]⟩, ⟨b1, 18, 2, 2, [t.a0.toNat, t.a1.toNat]⟩] = numsL t from rfl, show (numsL t).length = 7 from rfl] at cC0
 have cC := Lib.hid cC0
 clear cC0
 refine st 10 fun K hK => ?_
 go_simp
 refine (cC.out).mono ?_
 rintro e wc1 ⟨g, c, rfl, hOU, hbc1⟩
 have hrc1 := HR.next hHeld.2 hbc1
 have hU := Lib.hid hOU
 refine hK.out _ _ ?_ (fun hHeld => ?_)
 ·exact ⟨kT b1 t hrc1 0, hrc1⟩
 clear hK K
 try simp only [Act.put, List.setIfInBounds_toArray, List.set_cons_zero, List.set_cons_succ]
 refine tk 11 hHeld ?_
 refine wpAnyH_done (by kernel_rfl) (NoPanic.normal ?_) _
 have H2 := Lib.hid hHeld.2
 have cF0 := uContains g 0 7 c (numsL t) rfl (by decide) _ hU.out.ul
 clear hHeld cC H1
 go_upto_region 2 with fail
 go_cut [4] (fun v wc => v = .bool (c1 t) ∧ Hid (HR w wc [(b1, (txC t), 37)]))
 case first =>
  cases hA : (numsL t).any bigN
  ·rw [hA] at cF0
   by_cases h1 : t.inn < 4294967296
   ·have d1 : decide (t.inn < 4294967296) = true := decide_eq_true h1
    by_cases h2 : t.out < 4294967296
    ·have d2 : decide (t.out < 4294967296) = true := decide_eq_true h2
     by_cases h3 : t.seq ≤ 1125899906842624
     ·have d3 : decide (t.seq ≤ 1125899906842624) = true := decide_eq_true h3
      have hR : Hid (c1 t = true) := Lib.hid (by unfold c1; simp [hA, h1, h2, h3])
      have cF := Lib.hid cF0
      clear cF0
      replace hA := Lib.hid hA
      have k_inn := kT b1 t H2.out 1
      have k_out := kT b1 t H2.out 2
      have k_seq := kT b1 t H2.out 7
      go_wp2_with (go_at_call 46; refine cF.out.mono ?_; rintro e w' ⟨rfl, rfl⟩)
      go_meet
      exact ⟨by rw [hR.out], H2⟩
     ·have d3 : decide (t.seq ≤ 1125899906842624) = false := decide_eq_false h3
      have hR : Hid (c1 t = false) := Lib.hid (by unfold c1; simp [hA, h1, h2, h3])
      have cF := Lib.hid cF0
      clear cF0
      replace hA := Lib.hid hA
      have k_inn := kT b1 t H2.out 1
      have k_out := kT b1 t H2.out 2
      have k_seq := kT b1 t H2.out 7
      go_wp2_with (go_at_call 46; refine cF.out.mono ?_; rintro e w' ⟨rfl, rfl⟩)
      go_meet
      exact ⟨by rw [hR.out], H2⟩
    ·have d2 : decide (t.out < 4294967296) = false := decide_eq_false h2
     have hR : Hid (c1 t = false) := Lib.hid (by unfold c1; simp [hA, h1, h2])
     have cF := Lib.hid cF0
     clear cF0
     replace hA := Lib.hid hA
     have k_inn := kT b1 t H2.out 1
     have k_out := kT b1 t H2.out 2
     have k_seq := kT b1 t H2.out 7
     go_wp2_with (go_at_call 46; refine cF.out.mono ?_; rintro e w' ⟨rfl, rfl⟩)
     go_meet
     exact ⟨by rw [hR.out], H2⟩
   ·have d1 : decide (t.inn < 4294967296) = false := decide_eq_false h1
    have hR : Hid (c1 t = false) := Lib.hid (by unfold c1; simp [hA, h1])
    have cF := Lib.hid cF0
    clear cF0
    replace hA := Lib.hid hA
    have k_inn := kT b1 t H2.out 1
    have k_out := kT b1 t H2.out 2
    have k_seq := kT b1 t H2.out 7
    go_wp2_with (go_at_call 46; refine cF.out.mono ?_; rintro e w' ⟨rfl, rfl⟩)
    go_meet
    exact ⟨by rw [hR.out], H2⟩
  ·rw [hA] at cF0
   have hR : Hid (c1 t = false) := Lib.hid (by unfold c1; simp [hA])
   have cF := Lib.hid cF0
   clear cF0
   replace hA := Lib.hid hA
   have k_inn := kT b1 t H2.out 1
   have k_out := kT b1 t H2.out 2
   have k_seq := kT b1 t H2.out 7
   go_wp2_with (go_at_call 46; refine cF.out.mono ?_; rintro e w' ⟨rfl, rfl⟩)
   go_meet
   exact ⟨by rw [hR.out], H2⟩
 case rest =>
  clear cF0 H2 hU
  obtain ⟨rfl, H2⟩ := hcut
  obtain ⟨b, hb⟩ : ∃ b, c1 t = b := ⟨_, rfl⟩
  rw [hb]
  replace hb := Lib.hid hb
  go_upto_region 3 with fail
  go_cut [4] (fun v wc => v = .bool (b && c2 t) ∧ Hid (HR w wc [(b1, (txC t), 37)]))
  case first =>
   cases b
   ·refine wp_region_noPanic ?_
    refine wp_region_held_drew (S := fun wq => wq.cell? ⟨b1, 3, none⟩ = some (.int .u64 t.fx) ∧ wq.cell? ⟨b1, 4, none⟩ = some (.int .u64 t.fy) ∧ wq.cell? ⟨b1, 5, none⟩ = some (.int .u64 t.tx) ∧ wq.cell? ⟨b1, 6, none⟩ = some (.int .u64 t.ty) ∧ wq.cell? ⟨b1, 1, none⟩ = some (.int .u64 t.inn) ∧ wq.cell? ⟨b1, 2, none⟩ = some (.int .u64 t.out) ∧ HR w wq [(b1, (txC t), 37)]) (by kernel_rfl) ?_ (fun hHeld => ?_)
    ·have hq0 := HR.drew H2.out
     exact ⟨kT b1 t hq0 3, kT b1 t hq0 4, kT b1 t hq0 5, kT b1 t hq0 6, kT b1 t hq0 1, kT b1 t hq0 2, hq0⟩
    refine tk 0 hHeld ?_; refine tk 1 hHeld ?_; refine sk 2 hHeld ?_; refine sk 3 hHeld ?_; refine sk 4 hHeld ?_; refine tk 5 hHeld ?_; refine tk 6 hHeld ?_; refine sk 7 hHeld ?_; refine sk 8 hHeld ?_; refine sk 9 hHeld ?_; refine tk 10 hHeld ?_; refine tk 11 hHeld ?_; refine sk 12 hHeld ?_; refine sk 13 hHeld ?_; refine sk 14 hHeld ?_; refine sk 15 hHeld ?_; refine sk 16 hHeld ?_; refine sk 17 hHeld ?_; refine sk 18 hHeld ?_; refine sk 19 hHeld ?_; refine tk 20 hHeld ?_; refine tk 21 hHeld ?_; refine sk 22 hHeld ?_; refine sk 23 hHeld ?_; refine sk 24 hHeld ?_; refine sk 25 hHeld ?_; refine sk 26 hHeld ?_; refine sk 27 hHeld ?_; refine sk 28 hHeld ?_; refine sk 29 hHeld ?_; refine tk 30 hHeld ?_; refine tk 31 hHeld ?_
    refine wpAnyH_done (by kernel_rfl) (NoPanic.normal ?_) _
    go_wp2_with fail
    go_meet
    exact ⟨rfl, Lib.hid hHeld.2.2.2.2.2.2⟩
   ·have cA := Lib.hid (fun W => eIn t.fx t.fy hok.out.fx0 hok.out.fy0 W)
    have cB := Lib.hid (fun W => eIn t.tx t.ty hok.out.tx0 hok.out.ty0 W)
    cases q1 : inN (t.fx.toNat, t.fy.toNat)
    ·rw [q1] at cA
     have hR : Hid (c2 t = false) := Lib.hid (by unfold c2; simp [q1])
     replace q1 := Lib.hid q1
     refine wp_region_noPanic ?_
     refine wp_region_held_drew (S := fun wq => wq.cell? ⟨b1, 3, none⟩ = some (.int .u64 t.fx) ∧ wq.cell? ⟨b1, 4, none⟩ = some (.int .u64 t.fy) ∧ wq.cell? ⟨b1, 5, none⟩ = some (.int .u64 t.tx) ∧ wq.cell? ⟨b1, 6, none⟩ = some (.int .u64 t.ty) ∧ wq.cell? ⟨b1, 1, none⟩ = some (.int .u64 t.inn) ∧ wq.cell? ⟨b1, 2, none⟩ = some (.int .u64 t.out) ∧ HR w wq [(b1, (txC t), 37)]) (by kernel_rfl) ?_ (fun hHeld => ?_)
     ·have hq0 := HR.drew H2.out
      exact ⟨kT b1 t hq0 3, kT b1 t hq0 4, kT b1 t hq0 5, kT b1 t hq0 6, kT b1 t hq0 1, kT b1 t hq0 2, hq0⟩
     refine tk 0 hHeld ?_; refine tk 1 hHeld ?_; refine tk 2 hHeld ?_; refine tk 3 hHeld ?_
     refine st 4 fun K hK => ?_
     go_simp
     refine (cA.out _).mono ?_
     rintro e wc1 ⟨rfl, hbc1⟩
     have hrc1 := HR.next hHeld.2.2.2.2.2.2 hbc1
     refine hK.out _ _ ?_ (fun hHeld => ?_)
     ·exact ⟨kT b1 t hrc1 3, kT b1 t hrc1 4, kT b1 t hrc1 5, kT b1 t hrc1 6, kT b1 t hrc1 1, kT b1 t hrc1 2, hrc1⟩
     clear hK K
     try simp only [Act.put, List.setIfInBounds_toArray, List.set_cons_zero, List.set_cons_succ]
     refine tk 5 hHeld ?_; refine tk 6 hHeld ?_; refine sk 7 hHeld ?_; refine sk 8 hHeld ?_; refine sk 9 hHeld ?_; refine tk 10 hHeld ?_; refine tk 11 hHeld ?_; refine sk 12 hHeld ?_; refine sk 13 hHeld ?_; refine sk 14 hHeld ?_; refine sk 15 hHeld ?_; refine sk 16 hHeld ?_; refine sk 17 hHeld ?_; refine sk 18 hHeld ?_; refine sk 19 hHeld ?_; refine tk 20 hHeld ?_; refine tk 21 hHeld ?_; refine sk 22 hHeld ?_; refine sk 23 hHeld ?_; refine sk 24 hHeld ?_; refine sk 25 hHeld ?_; refine sk 26 hHeld ?_; refine sk 27 hHeld ?_; refine sk 28 hHeld ?_; refine sk 29 hHeld ?_; refine tk 30 hHeld ?_; refine tk 31 hHeld ?_
     refine wpAnyH_done (by kernel_rfl) (NoPanic.normal ?_) _
     go_wp2_with fail
     go_meet
     exact ⟨by rw [hR.out]; rfl, Lib.hid hHeld.2.2.2.2.2.2⟩
    ·rw [q1] at cA
     cases q2 : inN (t.tx.toNat, t.ty.toNat)
     ·rw [q2] at cB
      have hR : Hid (c2 t = false) := Lib.hid (by unfold c2; simp [q1, q2])
      replace q1 := Lib.hid q1
      replace q2 := Lib.hid q2
      refine wp_region_noPanic ?_
      refine wp_region_held_drew (S := fun wq => wq.cell? ⟨b1, 3, none⟩ = some (.int .u64 t.fx) ∧ wq.cell? ⟨b1, 4, none⟩ = some (.int .u64 t.fy) ∧ wq.cell? ⟨b1, 5, none⟩ = some (.int .u64 t.tx) ∧ wq.cell? ⟨b1, 6, none⟩ = some (.int .u64 t.ty) ∧ wq.cell? ⟨b1, 1, none⟩ = some (.int .u64 t.inn) ∧ wq.cell? ⟨b1, 2, none⟩ = some (.int .u64 t.out) ∧ HR w wq [(b1, (txC t), 37)]) (by kernel_rfl) ?_ (fun hHeld => ?_)
      ·have hq0 := HR.drew H2.out
       exact ⟨kT b1 t hq0 3, kT b1 t hq0 4, kT b1 t hq0 5, kT b1 t hq0 6, kT b1 t hq0 1, kT b1 t hq0 2, hq0⟩
      refine tk 0 hHeld ?_; refine tk 1 hHeld ?_; refine tk 2 hHeld ?_; refine tk 3 hHeld ?_
      refine st 4 fun K hK => ?_
      go_simp
      refine (cA.out _).mono ?_
      rintro e wc1 ⟨rfl, hbc1⟩
      have hrc1 := HR.next hHeld.2.2.2.2.2.2 hbc1
      refine hK.out _ _ ?_ (fun hHeld => ?_)
      ·exact ⟨kT b1 t hrc1 3, kT b1 t hrc1 4, kT b1 t hrc1 5, kT b1 t hrc1 6, kT b1 t hrc1 1, kT b1 t hrc1 2, hrc1⟩
      clear hK K
      try simp only [Act.put, List.setIfInBounds_toArray, List.set_cons_zero, List.set_cons_succ]
      refine tk 5 hHeld ?_; refine tk 6 hHeld ?_; refine tk 7 hHeld ?_; refine tk 8 hHeld ?_
      refine st 9 fun K hK => ?_
      go_simp
      refine (cB.out _).mono ?_
      rintro e wc2 ⟨rfl, hbc2⟩
      have hrc2 := HR.next hHeld.2.2.2.2.2.2 hbc2
      refine hK.out _ _ ?_ (fun hHeld => ?_)
      ·exact ⟨kT b1 t hrc2 3, kT b1 t hrc2 4, kT b1 t hrc2 5, kT b1 t hrc2 6, kT b1 t hrc2 1, kT b1 t hrc2 2, hrc2⟩
      clear hK K
      try simp only [Act.put, List.setIfInBounds_toArray, List.set_cons_zero, List.set_cons_succ]
      refine tk 10 hHeld ?_; refine tk 11 hHeld ?_; refine sk 12 hHeld ?_; refine sk 13 hHeld ?_; refine sk 14 hHeld ?_; refine sk 15 hHeld ?_; refine sk 16 hHeld ?_; refine sk 17 hHeld ?_; refine sk 18 hHeld ?_; refine sk 19 hHeld ?_; refine tk 20 hHeld ?_; refine tk 21 hHeld ?_; refine sk 22 hHeld ?_; refine sk 23 hHeld ?_; refine sk 24 hHeld ?_; refine sk 25 hHeld ?_; refine sk 26 hHeld ?_; refine sk 27 hHeld ?_; refine sk 28 hHeld ?_; refine sk 29 hHeld ?_; refine tk 30 hHeld ?_; refine tk 31 hHeld ?_
      refine wpAnyH_done (by kernel_rfl) (NoPanic.normal ?_) _
      go_wp2_with fail
      go_meet
      exact ⟨by rw [hR.out]; rfl, Lib.hid hHeld.2.2.2.2.2.2⟩
     ·rw [q2] at cB
      cases q3 : (zeroB t.fx t.fy == (t.inn == 0))
      ·have hR : Hid (c2 t = false) := Lib.hid (by unfold c2; simp [q1, q2, q3])
       replace q1 := Lib.hid q1
       replace q2 := Lib.hid q2
       refine wp_region_noPanic ?_
       refine wp_region_held_drew (S := fun wq => wq.cell? ⟨b1, 3, none⟩ = some (.int .u64 t.fx) ∧ wq.cell? ⟨b1, 4, none⟩ = some (.int .u64 t.fy) ∧ wq.cell? ⟨b1, 5, none⟩ = some (.int .u64 t.tx) ∧ wq.cell? ⟨b1, 6, none⟩ = some (.int .u64 t.ty) ∧ wq.cell? ⟨b1, 1, none⟩ = some (.int .u64 t.inn) ∧ wq.cell? ⟨b1, 2, none⟩ = some (.int .u64 t.out) ∧ HR w wq [(b1, (txC t), 37)]) (by kernel_rfl) ?_ (fun hHeld => ?_)
       ·have hq0 := HR.drew H2.out
        exact ⟨kT b1 t hq0 3, kT b1 t hq0 4, kT b1 t hq0 5, kT b1 t hq0 6, kT b1 t hq0 1, kT b1 t hq0 2, hq0⟩
       refine tk 0 hHeld ?_; refine tk 1 hHeld ?_; refine tk 2 hHeld ?_; refine tk 3 hHeld ?_
       refine st 4 fun K hK => ?_
       go_simp
       refine (cA.out _).mono ?_
       rintro e wc1 ⟨rfl, hbc1⟩
       have hrc1 := HR.next hHeld.2.2.2.2.2.2 hbc1
       refine hK.out _ _ ?_ (fun hHeld => ?_)
       ·exact ⟨kT b1 t hrc1 3, kT b1 t hrc1 4, kT b1 t hrc1 5, kT b1 t hrc1 6, kT b1 t hrc1 1, kT b1 t hrc1 2, hrc1⟩
       clear hK K
       try simp only [Act.put, List.setIfInBounds_toArray, List.set_cons_zero, List.set_cons_succ]
       refine tk 5 hHeld ?_; refine tk 6 hHeld ?_; refine tk 7 hHeld ?_; refine tk 8 hHeld ?_
       refine st 9 fun K hK => ?_
       go_simp
       refine (cB.out _).mono ?_
       rintro e wc2 ⟨rfl, hbc2⟩
       have hrc2 := HR.next hHeld.2.2.2.2.2.2 hbc2
       refine hK.out _ _ ?_ (fun hHeld => ?_)
       ·exact ⟨kT b1 t hrc2 3, kT b1 t hrc2 4, kT b1 t hrc2 5, kT b1 t hrc2 6, kT b1 t hrc2 1, kT b1 t hrc2 2, hrc2⟩
       clear hK K
       try simp only [Act.put, List.setIfInBounds_toArray, List.set_cons_zero, List.set_cons_succ]
       refine tk 10 hHeld ?_; refine tk 11 hHeld ?_; refine tk 12 hHeld ?_; refine tk 13 hHeld ?_; refine tk 16 hHeld ?_; refine tk 17 hHeld ?_; refine tk 18 hHeld ?_
       refine st 14 fun K hK => ?_
       go_simp
       refine (tZero _).mono ?_
       rintro e wc3 ⟨rfl, hbc3⟩
       have hrc3 := HR.next hHeld.2.2.2.2.2.2 hbc3
       refine hK.out _ _ ?_ (fun hHeld => ?_)
       ·exact ⟨kT b1 t hrc3 3, kT b1 t hrc3 4, kT b1 t hrc3 5, kT b1 t hrc3 6, kT b1 t hrc3 1, kT b1 t hrc3 2, hrc3⟩
       clear hK K
       try simp only [Act.put, List.setIfInBounds_toArray, List.set_cons_zero, List.set_cons_succ]
       refine takeH 15 (fun _ _ _ _ _ h => h) (by kernel_rfl) hHeld rfl (by kernel_rfl) (by rfl) (v := .bool (zeroB t.fx t.fy)) ?_ ?_
       ·intro wz hz
        (try dsimp only at hz)
        go_simp
        exact zero_if _ _ _
       try simp only [Act.put, List.setIfInBounds_toArray, List.set_cons_zero, List.set_cons_succ]
       refine takeH 19 (fun _ _ _ _ _ h => h) (by kernel_rfl) hHeld rfl (by kernel_rfl) (by rfl) (v := .bool false) ?_ ?_
       ·intro wz hz
        (try dsimp only at hz)
        go_simp
        try rw [q3]
       try simp only [Act.put, List.setIfInBounds_toArray, List.set_cons_zero, List.set_cons_succ]
       refine tk 20 hHeld ?_; refine tk 21 hHeld ?_; refine sk 22 hHeld ?_; refine sk 23 hHeld ?_; refine sk 24 hHeld ?_; refine sk 25 hHeld ?_; refine sk 26 hHeld ?_; refine sk 27 hHeld ?_; refine sk 28 hHeld ?_; refine sk 29 hHeld ?_; refine tk 30 hHeld ?_; refine tk 31 hHeld ?_
       refine wpAnyH_done (by kernel_rfl) (NoPanic.normal ?_) _
       go_wp2_with fail
       go_meet
       exact ⟨by rw [hR.out]; rfl, Lib.hid hHeld.2.2.2.2.2.2⟩
      ·cases q4 : (zeroB t.tx t.ty == (t.out == 0))
       ·have hR : Hid (c2 t = false) := Lib.hid (by unfold c2; simp [q1, q2, q3, q4])
        replace q1 := Lib.hid q1
        replace q2 := Lib.hid q2
        refine wp_region_noPanic ?_
        refine wp_region_held_drew (S := fun wq => wq.cell? ⟨b1, 3, none⟩ = some (.int .u64 t.fx) ∧ wq.cell? ⟨b1, 4, none⟩ = some (.int .u64 t.fy) ∧ wq.cell? ⟨b1, 5, none⟩ = some (.int .u64 t.tx) ∧ wq.cell? ⟨b1, 6, none⟩ = some (.int .u64 t.ty) ∧ wq.cell? ⟨b1, 1, none⟩ = some (.int .u64 t.inn) ∧ wq.cell? ⟨b1, 2, none⟩ = some (.int .u64 t.out) ∧ HR w wq [(b1, (txC t), 37)]) (by kernel_rfl) ?_ (fun hHeld => ?_)
        ·have hq0 := HR.drew H2.out
         exact ⟨kT b1 t hq0 3, kT b1 t hq0 4, kT b1 t hq0 5, kT b1 t hq0 6, kT b1 t hq0 1, kT b1 t hq0 2, hq0⟩
        refine tk 0 hHeld ?_; refine tk 1 hHeld ?_; refine tk 2 hHeld ?_; refine tk 3 hHeld ?_
        refine st 4 fun K hK => ?_
        go_simp
        refine (cA.out _).mono ?_
        rintro e wc1 ⟨rfl, hbc1⟩
        have hrc1 := HR.next hHeld.2.2.2.2.2.2 hbc1
        refine hK.out _ _ ?_ (fun hHeld => ?_)
        ·exact ⟨kT b1 t hrc1 3, kT b1 t hrc1 4, kT b1 t hrc1 5, kT b1 t hrc1 6, kT b1 t hrc1 1, kT b1 t hrc1 2, hrc1⟩
        clear hK K
        try simp only [Act.put, List.setIfInBounds_toArray, List.set_cons_zero, List.set_cons_succ]
        refine tk 5 hHeld ?_; refine tk 6 hHeld ?_; refine tk 7 hHeld ?_; refine tk 8 hHeld ?_
        refine st 9 fun K hK => ?_
        go_simp
        refine (cB.out _).mono ?_
        rintro e wc2 ⟨rfl, hbc2⟩
        have hrc2 := HR.next hHeld.2.2.2.2.2.2 hbc2
        refine hK.out _ _ ?_ (fun hHeld => ?_)
        ·exact ⟨kT b1 t hrc2 3, kT b1 t hrc2 4, kT b1 t hrc2 5, kT b1 t hrc2 6, kT b1 t hrc2 1, kT b1 t hrc2 2, hrc2⟩
        clear hK K
        try simp only [Act.put, List.setIfInBounds_toArray, List.set_cons_zero, List.set_cons_succ]
        refine tk 10 hHeld ?_; refine tk 11 hHeld ?_; refine tk 12 hHeld ?_; refine tk 13 hHeld ?_; refine tk 16 hHeld ?_; refine tk 17 hHeld ?_; refine tk 18 hHeld ?_
        refine st 14 fun K hK => ?_
        go_simp
        refine (tZero _).mono ?_
        rintro e wc3 ⟨rfl, hbc3⟩
        have hrc3 := HR.next hHeld.2.2.2.2.2.2 hbc3
        refine hK.out _ _ ?_ (fun hHeld => ?_)
        ·exact ⟨kT b1 t hrc3 3, kT b1 t hrc3 4, kT b1 t hrc3 5, kT b1 t hrc3 6, kT b1 t hrc3 1, kT b1 t hrc3 2, hrc3⟩
        clear hK K
        try simp only [Act.put, List.setIfInBounds_toArray, List.set_cons_zero, List.set_cons_succ]
        refine takeH 15 (fun _ _ _ _ _ h => h) (by kernel_rfl) hHeld rfl (by kernel_rfl) (by rfl) (v := .bool (zeroB t.fx t.fy)) ?_ ?_
        ·intro wz hz
         (try dsimp only at hz)
         go_simp
         exact zero_if _ _ _
        try simp only [Act.put, List.setIfInBounds_toArray, List.set_cons_zero, List.set_cons_succ]
        refine takeH 19 (fun _ _ _ _ _ h => h) (by kernel_rfl) hHeld rfl (by kernel_rfl) (by rfl) (v := .bool true) ?_ ?_
        ·intro wz hz
         (try dsimp only at hz)
         go_simp
         try rw [q3]
        try simp only [Act.put, List.setIfInBounds_toArray, List.set_cons_zero, List.set_cons_succ]
        refine tk 20 hHeld ?_; refine tk 21 hHeld ?_; refine tk 22 hHeld ?_; refine tk 23 hHeld ?_; refine tk 26 hHeld ?_; refine tk 27 hHeld ?_; refine tk 28 hHeld ?_
        refine st 24 fun K hK => ?_
        go_simp
        refine (tZero _).mono ?_
        rintro e wc4 ⟨rfl, hbc4⟩
        have hrc4 := HR.next hHeld.2.2.2.2.2.2 hbc4
        refine hK.out _ _ ?_ (fun hHeld => ?_)
        ·exact ⟨kT b1 t hrc4 3, kT b1 t hrc4 4, kT b1 t hrc4 5, kT b1 t hrc4 6, kT b1 t hrc4 1, kT b1 t hrc4 2, hrc4⟩
        clear hK K
        try simp only [Act.put, List.setIfInBounds_toArray, List.set_cons_zero, List.set_cons_succ]
        refine takeH 25 (fun _ _ _ _ _ h => h) (by kernel_rfl) hHeld rfl (by kernel_rfl) (by rfl) (v := .bool (zeroB t.tx t.ty)) ?_ ?_
        ·intro wz hz
         (try dsimp only at hz)
         go_simp
         exact zero_if _ _ _
        try simp only [Act.put, List.setIfInBounds_toArray, List.set_cons_zero, List.set_cons_succ]
        refine takeH 29 (fun _ _ _ _ _ h => h) (by kernel_rfl) hHeld rfl (by kernel_rfl) (by rfl) (v := .bool false) ?_ ?_
        ·intro wz hz
         (try dsimp only at hz)
         go_simp
         try rw [q4]
        try simp only [Act.put, List.setIfInBounds_toArray, List.set_cons_zero, List.set_cons_succ]
        refine tk 30 hHeld ?_; refine tk 31 hHeld ?_
        refine wpAnyH_done (by kernel_rfl) (NoPanic.normal ?_) _
        go_wp2_with fail
        go_meet
        exact ⟨by rw [hR.out]; rfl, Lib.hid hHeld.2.2.2.2.2.2⟩
       ·have hR : Hid (c2 t = true) := Lib.hid (by unfold c2; simp [q1, q2, q3, q4])
        exact absurd hAA.out (by rw [hb.out, hR.out]; decide)
  case rest =>
   clear H2
   obtain ⟨rfl, H2⟩ := hcut
   rw [show (b && c2 t) = false by rw [← hb.out]; exact hAA.out]
   have k_n0x := kT b1 t H2.out 12
   have k_n0y := kT b1 t H2.out 13
   have k_S0 := kT b1 t H2.out 14
   have k_n1x := kT b1 t H2.out 15
   have k_n1y := kT b1 t H2.out 16
   have k_S1 := kT b1 t H2.out 17
   go_wp2_with fail
   clear k_n0x k_n0y k_S0 k_n1x k_n1y k_S1
   go_loopw [4, 69] (fun q1 q2 wr => ∃ j : Nat, j ≤ 2 ∧ q2 = .int .i64 (j : Int) ∧ q1 = .bool false ∧ Hid (HR w wr [(b1, (txC t), 37)])) (fun _ q2 _ => (2 - intOf q2).toNat)
   case atStart => exact ⟨0, by omega, rfl, rfl, H2⟩
   case round =>
    clear H2
    obtain ⟨j, hj, rfl, rfl, H2⟩ := hrel
    rcases (by omega : j = 0 ∨ j = 1 ∨ j = 2) with rfl | rfl | rfl
    ·have hix := idx_n0
     go_upto_region 7 with fail
     clear hix
     have H6a := H2.out.new #[.int .u64 t.n0x, .int .u64 t.n0y, .slice t.s0 t.l0 t.c0] 28
     generalize wr.alloc (.cells #[.int .u64 t.n0x, .int .u64 t.n0y, .slice t.s0 t.l0 t.c0] 28) = w6 at H6a ⊢
     generalize wr.heap.size = b6 at H6a ⊢
     have H6 := Lib.hid H6a
     clear H6a
     refine wp_region_noPanic ?_
     refine wp_region_held_drew (S := fun wq => wq.cell? ⟨b6, 0, none⟩ = some (.int .u64 t.n0x) ∧ wq.cell? ⟨b6, 1, none⟩ = some (.int .u64 t.n0y) ∧ wq.cell? ⟨b6, 2, none⟩ = some (.slice t.s0 t.l0 t.c0) ∧ HR w wq [(b6, #[.int .u64 t.n0x, .int .u64 t.n0y, .slice t.s0 t.l0 t.c0], 28), (b1, (txC t), 37)]) (by kernel_rfl) ?_ (fun hHeld => ?_)
     ·have hq0 := HR.drew H6.out
      exact ⟨HR.cell hq0 (b := b6) (cs := #[.int .u64 t.n0x, .int .u64 t.n0y, .slice t.s0 t.l0 t.c0]) (t := 28) (by simp) 0 rfl, HR.cell hq0 (b := b6) (cs := #[.int .u64 t.n0x, .int .u64 t.n0y, .slice t.s0 t.l0 t.c0]) (t := 28) (by simp) 1 rfl, HR.cell hq0 (b := b6) (cs := #[.int .u64 t.n0x, .int .u64 t.n0y, .slice t.s0 t.l0 t.c0]) (t := 28) (by simp) 2 rfl, hq0⟩
     refine tk 0 hHeld ?_; refine tk 1 hHeld ?_; refine sk 2 hHeld ?_; refine sk 3 hHeld ?_; refine sk 4 hHeld ?_; refine tk 5 hHeld ?_; refine tk 6 hHeld ?_; refine sk 7 hHeld ?_; refine sk 8 hHeld ?_; refine sk 9 hHeld ?_; refine sk 10 hHeld ?_; refine tk 11 hHeld ?_; refine tk 12 hHeld ?_; refine sk 13 hHeld ?_; refine sk 14 hHeld ?_; refine sk 15 hHeld ?_; refine sk 16 hHeld ?_; refine tk 17 hHeld ?_; refine tk 18 hHeld ?_
     refine wpAnyH_done (by kernel_rfl) (NoPanic.normal ?_) _
     have H7 := Lib.hid (HR.sub (qs := [(b1, (txC t), 37)]) hHeld.2.2.2 (by simp))
     clear hHeld H6 H2
     go_wp2_with fail
     go_roundw
     case rel => exact ⟨1, by omega, rfl, rfl, H7⟩
     case measure => simp [intOf]
    ·have hix := idx_n1
     go_upto_region 7 with fail
     clear hix
     have H6a := H2.out.new #[.int .u64 t.n1x, .int .u64 t.n1y, .slice t.s1 t.l1 t.c1] 28
     generalize wr.alloc (.cells #[.int .u64 t.n1x, .int .u64 t.n1y, .slice t.s1 t.l1 t.c1] 28) = w6 at H6a ⊢
     generalize wr.heap.size = b6 at H6a ⊢
     have H6 := Lib.hid H6a
     clear H6a
     refine wp_region_noPanic ?_
     refine wp_region_held_drew (S := fun wq => wq.cell? ⟨b6, 0, none⟩ = some (.int .u64 t.n1x) ∧ wq.cell? ⟨b6, 1, none⟩ = some (.int .u64 t.n1y) ∧ wq.cell? ⟨b6, 2, none⟩ = some (.slice t.s1 t.l1 t.c1) ∧ HR w wq [(b6, #[.int .u64 t.n1x, .int .u64 t.n1y, .slice t.s1 t.l1 t.c1], 28), (b1, (txC t), 37)]) (by kernel_rfl) ?_ (fun hHeld => ?_)
     ·have hq0 := HR.drew H6.out
      exact ⟨HR.cell hq0 (b := b6) (cs := #[.int .u64 t.n1x, .int .u64 t.n1y, .slice t.s1 t.l1 t.c1]) (t := 28) (by simp) 0 rfl, HR.cell hq0 (b := b6) (cs := #[.int .u64 t.n1x, .int .u64 t.n1y, .slice t.s1 t.l1 t.c1]) (t := 28) (by simp) 1 rfl, HR.cell hq0 (b := b6) (cs := #[.int .u64 t.n1x, .int .u64 t.n1y, .slice t.s1 t.l1 t.c1]) (t := 28) (by simp) 2 rfl, hq0⟩
     refine tk 0 hHeld ?_; refine tk 1 hHeld ?_; refine sk 2 hHeld ?_; refine sk 3 hHeld ?_; refine sk 4 hHeld ?_; refine tk 5 hHeld ?_; refine tk 6 hHeld ?_; refine sk 7 hHeld ?_; refine sk 8 hHeld ?_; refine sk 9 hHeld ?_; refine sk 10 hHeld ?_; refine tk 11 hHeld ?_; refine tk 12 hHeld ?_; refine sk 13 hHeld ?_; refine sk 14 hHeld ?_; refine sk 15 hHeld ?_; refine sk 16 hHeld ?_; refine tk 17 hHeld ?_; refine tk 18 hHeld ?_
     refine wpAnyH_done (by kernel_rfl) (NoPanic.normal ?_) _
     have H7 := Lib.hid (HR.sub (qs := [(b1, (txC t), 37)]) hHeld.2.2.2 (by simp))
     clear hHeld H6 H2
     go_wp2_with fail
     go_roundw
     case rel => exact ⟨2, by omega, rfl, rfl, H7⟩
     case measure => simp [intOf]
    ·go_upto_region 9 with fail
     go_upto_region 10 with fail
     refine wp_region_noPanic ?_
     refine wp_region_held_drew (S := fun wq => wq.cell? ⟨b1, 1, none⟩ = some (.int .u64 t.inn) ∧ wq.cell? ⟨b1, 7, none⟩ = some (.int .u64 t.seq) ∧ wq.cell? ⟨b1, 29, none⟩ = some (.int .u64 t.gx) ∧ wq.cell? ⟨b1, 30, none⟩ = some (.int .u64 t.gy) ∧ wq.cell? ⟨b1, 31, none⟩ = some (.int .u64 t.gz) ∧ HR w wq [(b1, (txC t), 37)]) (by kernel_rfl) ?_ (fun hHeld => ?_)
     ·have hq0 := HR.drew H2.out
      exact ⟨kT b1 t hq0 1, kT b1 t hq0 7, kT b1 t hq0 29, kT b1 t hq0 30, kT b1 t hq0 31, hq0⟩
     refine tk 0 hHeld ?_; refine tk 1 hHeld ?_; refine tk 2 hHeld ?_; refine sk 3 hHeld ?_; refine sk 4 hHeld ?_; refine sk 5 hHeld ?_; refine sk 6 hHeld ?_; refine sk 7 hHeld ?_; refine sk 8 hHeld ?_; refine sk 9 hHeld ?_; refine sk 10 hHeld ?_; refine sk 11 hHeld ?_; refine sk 12 hHeld ?_; refine sk 13 hHeld ?_; refine sk 14 hHeld ?_; refine sk 15 hHeld ?_; refine sk 16 hHeld ?_; refine tk 17 hHeld ?_
     refine wpAnyH_done (by kernel_rfl) (NoPanic.normal ?_) _
     have hL := Lib.hid hHeld.2.2.2.2.2.2
     clear hHeld
     go_wp2_with fail
     go_ret
     exact ⟨rfl, hL.out⟩

end Go.Proofs.YtkfimfjjmdjbdaaGreatDoor
