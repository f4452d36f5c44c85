import Derived.Test.YtkfimfjjmdjbdaaUf
import Derived.BigRegion
set_option linter.unusedVariables false
set_option linter.unusedSimpArgs false
set_option linter.unusedSectionVars false
/- Walks: package curve: whether a multiple of a point is Inf, whether a point is of order R. -/
namespace Go.Proofs.Ytkfimfjjmdjbdaa
open Go.RowKit

noncomputable def infC (i : Bool) (X Y : Int) (k : Nat) : Bool := i || (Obol.timC (X.toNat, Y.toNat) k 64 Option.none).isNone
/-- Is it a point of order R? -/
noncomputable def inPt (i : Bool) (X Y : Int) : Bool := isPt i X Y && infC i X Y Obol.R

/-- What is known ahead of each round. -/
structure JacI (a : Nat × Nat) (k : Nat) (x y z i : Int) : Prop where
  x0 : 0 ≤ x
  y0 : 0 ≤ y
  z0 : 0 ≤ z
  i0 : -1 ≤ i
  i1 : i ≤ 63
  eq : Obol.jacC a k (i + 1).toNat (x.toNat, y.toNat, z.toNat) = Obol.jacC a k 64 (0, 0, 0)
theorem JacI.step0 {a : Nat × Nat} {k : Nat} {x y z i : Int} (h : JacI a k x y z i) (hi : 0 ≤ i) (hb : k / 2 ^ i.toNat % 2 ≠ 1) {x' y' z' : Int} (hx : 0 ≤ x') (hy : 0 ≤ y') (hz : 0 ≤ z')
    (hu : (x'.toNat, y'.toNat, z'.toNat) = Obol.upC (x.toNat, y.toNat, z.toNat)) : JacI a k x' y' z' (i - 1) := by
  have i1 := h.i1
  refine ⟨hx, hy, hz, by omega, by omega, ?_⟩
  rw [← h.eq, hu, show (i - 1 + 1).toNat = i.toNat by omega, show (i + 1).toNat = i.toNat + 1 by omega, Obol.jacC, if_neg hb]
theorem JacI.step1 {a : Nat × Nat} {k : Nat} {x y z i : Int} (h : JacI a k x y z i) (hi : 0 ≤ i) (hb : k / 2 ^ i.toNat % 2 = 1) {x' y' z' : Int} (hx : 0 ≤ x') (hy : 0 ≤ y') (hz : 0 ≤ z') {x2 y2 z2 : Int}
    (hx2 : 0 ≤ x2) (hy2 : 0 ≤ y2) (hz2 : 0 ≤ z2)
    (hu : (x'.toNat, y'.toNat, z'.toNat) = Obol.upC (x.toNat, y.toNat, z.toNat)) (hm : (x2.toNat, y2.toNat, z2.toNat) = Obol.moC (x'.toNat, y'.toNat, z'.toNat) a) : JacI a k x2 y2 z2 (i - 1) := by
  have i1 := h.i1
  refine ⟨hx2, hy2, hz2, by omega, by omega, ?_⟩
  rw [← h.eq, hm, hu, show (i - 1 + 1).toNat = i.toNat by omega, show (i + 1).toNat = i.toNat + 1 by omega, Obol.jacC, if_pos hb]
theorem JacI.done {a : Nat × Nat} {k : Nat} {x y z : Int} (h : JacI a k x y z (-1)) : (x.toNat, y.toNat, z.toNat) = Obol.jacC a k 64 (0, 0, 0) := h.eq
theorem jac_start (a : Nat × Nat) (k : Nat) : JacI a k 0 0 0 63 := ⟨by omega, by omega, by omega, by omega, by omega, rfl⟩
theorem isC_lt {x y : Nat} (h : Obol.isC x y = true) : x < Obol.P ∧ y < Obol.P := by
  unfold Obol.isC at h
  simp only [Bool.and_eq_true, decide_eq_true_eq] at h
  exact ⟨h.1.1, h.1.2⟩
theorem jac_end {X Y : Int} {k : Nat} {x y z : Int} (hp : Obol.isC X.toNat Y.toNat = true) (h : JacI (X.toNat, Y.toNat) k x y z (-1)) : z < 1152921505151057923 ∧ infC false X Y k = decide (z = 0) := by
  have hd := h.done
  have hz := h.z0
  have h2 := congrArg (fun t : Nat × Nat × Nat => t.2.2) hd
  have hj := Obol.jac_inf hp k
  have hl := (Obol.jacC_lt (a := (X.toNat, Y.toNat)) (isC_lt hp) k 64 (0, 0, 0) ⟨by decide +kernel, by decide +kernel, by decide +kernel⟩).2.2
  simp only at h2
  rw [← h2, Obol.P_def] at hl
  refine ⟨by omega, ?_⟩
  rw [← h2] at hj
  unfold infC
  rw [Bool.false_or, Bool.eq_iff_iff, decide_eq_true_eq, Option.isNone_iff_eq_none, ← hj]
  omega
def MulSaid (b : Bool) (w : World) (e : Ending) (w' : World) : Prop := (∃ x y : Int, e = .returned (.agg #[.bool b, .int .u64 x, .int .u64 y])) ∧ Below w.heap.size w w'

theorem cMulInf (k : Int) (w : World) (hk : 0 ≤ k) : Calls Try.prog 54 #[ptV true 0 0, .int .u64 k] w (MulSaid true w) := by
  go_enter Try.func54, Try.ntmps54
  go_wp2_with fail
  refine (cSure true 0 0 (by omega) (by omega) rfl _).mono ?_
  rintro e w1 ⟨rfl, hb⟩
  have R0 : Row w1 w.heap.size #[.bool true, .int .u64 0, .int .u64 0] 31 := ((Row.new _ _ _).alloc _).below hb (by simp; omega)
  have R1 : Row w1 (w.heap.size + 1) #[.bool false, .int .u64 0, .int .u64 0] 31 := by have h := Row.new (w.alloc (.cells #[.bool true, .int .u64 0, .int .u64 0] 31)) #[.bool false, .int .u64 0, .int .u64 0] 31; rw [World.size_alloc] at h; exact h.below hb (by simp)
  have hB : Below w.heap.size w w1 := by repeat (first | exact Below.refl _ _ | assumption | apply bDrewN | apply bDrew | apply bAlloc | refine bSet ?_ (by omega) | refine bThen ?_ (by assumption) (by simp <;> omega))
  have g0 := R0.cell 0 rfl
  have g1 := R0.cell 1 rfl
  have g2 := R0.cell 2 rfl
  have k0 := R1.cell 0 rfl
  have k1 := R1.cell 1 rfl
  have k2 := R1.cell 2 rfl
  have f0 := R0.free 0
  have f1 := R0.free 1
  have f2 := R0.free 2
  have j0 := R1.free 0
  have j1 := R1.free 1
  have j2 := R1.free 2
  have hL := Lib.hid (bSet (bSet (bSet (bSet (bSet (bSet hB (b := w.heap.size) (o := 0) (u := .bool true) (by omega)) (b := w.heap.size) (o := 1) (u := .int .u64 0) (by omega)) (b := w.heap.size) (o := 2) (u := .int .u64 0) (by omega)) (b := w.heap.size + 1) (o := 0) (u := .bool true) (by omega)) (b := w.heap.size + 1) (o := 1) (u := .int .u64 0) (by omega)) (b := w.heap.size + 1) (o := 2) (u := .int .u64 0) (by omega))
  have hS := (((R1.other (v := .bool true) (c := w.heap.size) (o := 0) (by omega)).other (v := .int .u64 0) (c := w.heap.size) (o := 1) (by omega)).other (v := .int .u64 0) (c := w.heap.size) (o := 2) (by omega)).set3 (v0 := .bool true) (v1 := .int .u64 0) (v2 := .int .u64 0)
  have s0 := hS.cell 0 rfl
  have s1 := hS.cell 1 rfl
  have s2 := hS.cell 2 rfl
  clear hB hb R0 R1 hS
  go_wp2_with fail
  refine bodyPost_ret (v := ptV true 0 0) (by simp [results, Try.results54, go_sem, s0, s1, s2]) rfl ⟨⟨0, 0, rfl⟩, hL.out⟩
set_option maxRecDepth 8000 in
set_option maxHeartbeats 30000000 in
theorem cMulPt (X Y k : Int) (b : Bool) (hX : 0 ≤ X) (hY : 0 ≤ Y) (hk : 0 ≤ k) (hk1 : k ≤ 18446744073709551615) (hp : Obol.isC X.toNat Y.toNat = true) (hb0 : infC false X Y k.toNat = b) (w : World) :
    Calls Try.prog 54 #[ptV false X Y, .int .u64 k] w (MulSaid b w) := by
  have hSu := Lib.hid (fun w => cSure false X Y hX hY hp w)
  have hpc := Lib.hid hp
  have hb := Lib.hid hb0
  have hJ := Lib.hid (jac_start (X.toNat, Y.toNat) k.toNat)
  clear hp hb0
  go_enter Try.func54, Try.ntmps54
  go_wp2_with fail
  refine (hSu.out _).mono ?_
  rintro e w1 ⟨rfl, hb⟩
  have hR1 := (((HR.refl w).new #[.bool false, .int .u64 X, .int .u64 Y] 31).new #[.bool false, .int .u64 0, .int .u64 0] 31).next hb
  simp only [World.size_alloc] at hR1
  clear hb
  generalize hb4 : w.heap.size + 1 = b4 at hR1 ⊢
  generalize hb1 : w.heap.size = b1 at hR1 ⊢
  have hbs : Hid (w.heap.size ≤ b1 ∧ b1 < b4) := Lib.hid (by omega)
  have H1 : Hid (HR w w1 [(b4, #[.bool false, .int .u64 0, .int .u64 0], 31), (b1, #[.bool false, .int .u64 X, .int .u64 Y], 31)]) := Lib.hid hR1
  clear hb1 hb4 hR1
  have c_b4_0 := H1.out.cell (b := b4) (cs := #[.bool false, .int .u64 0, .int .u64 0]) (t := 31) (by simp) 0 rfl
  have c_b4_1 := H1.out.cell (b := b4) (cs := #[.bool false, .int .u64 0, .int .u64 0]) (t := 31) (by simp) 1 rfl
  have c_b4_2 := H1.out.cell (b := b4) (cs := #[.bool false, .int .u64 0, .int .u64 0]) (t := 31) (by simp) 2 rfl
  have c_b1_0 := H1.out.cell (b := b1) (cs := #[.bool false, .int .u64 X, .int .u64 Y]) (t := 31) (by simp) 0 rfl
  have c_b1_1 := H1.out.cell (b := b1) (cs := #[.bool false, .int .u64 X, .int .u64 Y]) (t := 31) (by simp) 1 rfl
  have c_b1_2 := H1.out.cell (b := b1) (cs := #[.bool false, .int .u64 X, .int .u64 Y]) (t := 31) (by simp) 2 rfl
  have f_b1_0 := H1.out.free (b := b1) (cs := #[.bool false, .int .u64 X, .int .u64 Y]) (t := 31) (by simp) 0
  have f_b1_1 := H1.out.free (b := b1) (cs := #[.bool false, .int .u64 X, .int .u64 Y]) (t := 31) (by simp) 1
  have f_b1_2 := H1.out.free (b := b1) (cs := #[.bool false, .int .u64 X, .int .u64 Y]) (t := 31) (by simp) 2
  go_upto_region 2 with fail
  have H2 : Hid (HR w (((w1.setCell ⟨b1, 0, none⟩ (.bool false)).setCell ⟨b1, 1, none⟩ (.int .u64 X)).setCell ⟨b1, 2, none⟩ (.int .u64 Y)) [(b1, #[.bool false, .int .u64 X, .int .u64 Y], 31), (b4, #[.bool false, .int .u64 0, .int .u64 0], 31)]) := Lib.hid (HR.put3 H1.out.swap (by have := hbs.out; simp; omega) (by have := hbs.out; omega))
  clear c_b4_0 c_b4_1 c_b4_2 c_b1_0 c_b1_1 c_b1_2 f_b1_0 f_b1_1 f_b1_2
  generalize ((w1.setCell ⟨b1, 0, none⟩ (.bool false)).setCell ⟨b1, 1, none⟩ (.int .u64 X)).setCell ⟨b1, 2, none⟩ (.int .u64 Y) = w2 at H2 ⊢
  clear H1
  have c_b1_0 := H2.out.cell (b := b1) (cs := #[.bool false, .int .u64 X, .int .u64 Y]) (t := 31) (by simp) 0 rfl
  have c_b1_1 := H2.out.cell (b := b1) (cs := #[.bool false, .int .u64 X, .int .u64 Y]) (t := 31) (by simp) 1 rfl
  have c_b1_2 := H2.out.cell (b := b1) (cs := #[.bool false, .int .u64 X, .int .u64 Y]) (t := 31) (by simp) 2 rfl
  have c_b4_0 := H2.out.cell (b := b4) (cs := #[.bool false, .int .u64 0, .int .u64 0]) (t := 31) (by simp) 0 rfl
  have c_b4_1 := H2.out.cell (b := b4) (cs := #[.bool false, .int .u64 0, .int .u64 0]) (t := 31) (by simp) 1 rfl
  have c_b4_2 := H2.out.cell (b := b4) (cs := #[.bool false, .int .u64 0, .int .u64 0]) (t := 31) (by simp) 2 rfl
  go_upto_region 5 with fail
  have hR3 := H2.out.new #[.int .u64 0, .int .u64 0, .int .u64 0] 113
  have hlt5 := H2.out.lt (b := b1) (cs := #[.bool false, .int .u64 X, .int .u64 Y]) (t := 31) (by simp)
  have hlt6 := H2.out.lt (b := b4) (cs := #[.bool false, .int .u64 0, .int .u64 0]) (t := 31) (by simp)
  clear c_b1_0 c_b1_1 c_b1_2 c_b4_0 c_b4_1 c_b4_2
  generalize w2.alloc (.cells #[.int .u64 0, .int .u64 0, .int .u64 0] 113) = w3 at hR3 ⊢
  generalize w2.heap.size = b5 at hR3 hlt5 hlt6 ⊢
  have H3 : Hid (HR w w3 [(b5, #[.int .u64 0, .int .u64 0, .int .u64 0], 113), (b1, #[.bool false, .int .u64 X, .int .u64 Y], 31), (b4, #[.bool false, .int .u64 0, .int .u64 0], 31)]) := Lib.hid hR3
  have hbt : Hid (w.heap.size ≤ b1 ∧ b1 < b4 ∧ b4 < b5 ∧ b1 < b5) := Lib.hid (by have := hbs.out; omega)
  clear H2 hR3 hlt5 hlt6 hbs
  go_wp2_with fail
  go_loopw [6] (fun q wr => ∃ i x y z : Int, q = .int .i64 i ∧ Hid (HR w wr [(b5, #[.int .u64 x, .int .u64 y, .int .u64 z], 113), (b1, #[.bool false, .int .u64 X, .int .u64 Y], 31), (b4, #[.bool false, .int .u64 0, .int .u64 0], 31)]) ∧ Hid (JacI (X.toNat, Y.toNat) k.toNat x y z i)) (fun q _ => (1 + intOf q).toNat)
  case atStart => exact ⟨63, 0, 0, 0, rfl, H3, hJ⟩
  case round =>
    clear H3
    obtain ⟨i, x, y, z, rfl, HR0, HI⟩ := hrel
    have ix := HI.out.x0
    have iy := HI.out.y0
    have iz := HI.out.z0
    have ii := HI.out.i0
    have ij := HI.out.i1
    by_cases hi : 0 ≤ i
    · have hs0 : 0 ≤ k / 2 ^ i.toNat := Int.ediv_nonneg hk (Int.le_of_lt (Int.pow_pos (by omega)))
      have hs1 : k / 2 ^ i.toNat ≤ 18446744073709551615 := Int.le_trans (Int.ediv_le_self _ hk) hk1
      have ha := and_one_u64 (k / 2 ^ i.toNat) hs0 hs1
      have hbit : Hid (((k.toNat / 2 ^ i.toNat % 2 : Nat) : Int) = k / 2 ^ i.toNat % 2) := Lib.hid (by rw [Int.natCast_emod, Int.natCast_ediv, Int.toNat_of_nonneg hk, Int.natCast_pow]; rfl)
      obtain ⟨bt, hbt2⟩ : ∃ z : Int, k / 2 ^ i.toNat % 2 = z := ⟨_, rfl⟩
      rw [hbt2] at ha hbit
      have hb01 : bt = 0 ∨ bt = 1 := by omega
      replace hbt2 := Lib.hid hbt2
      by_cases hz : 0 < z
      · rcases hb01 with rfl | rfl
        · have eu : Hid (Obol.twC (x.toNat, y.toNat, z.toNat) = Obol.upC (x.toNat, y.toNat, z.toNat)) := Lib.hid (by unfold Obol.upC; rw [if_neg (show ¬ z.toNat = 0 by omega)])
          have hbn : Hid (k.toNat / 2 ^ i.toNat % 2 ≠ 1) := Lib.hid (by have := hbit.out; omega)
          have c_b5_0 := HR0.out.cell (b := b5) (cs := #[.int .u64 x, .int .u64 y, .int .u64 z]) (t := 113) (by simp) 0 rfl
          have c_b5_1 := HR0.out.cell (b := b5) (cs := #[.int .u64 x, .int .u64 y, .int .u64 z]) (t := 113) (by simp) 1 rfl
          have c_b5_2 := HR0.out.cell (b := b5) (cs := #[.int .u64 x, .int .u64 y, .int .u64 z]) (t := 113) (by simp) 2 rfl
          have c_b1_0 := HR0.out.cell (b := b1) (cs := #[.bool false, .int .u64 X, .int .u64 Y]) (t := 31) (by simp) 0 rfl
          have c_b1_1 := HR0.out.cell (b := b1) (cs := #[.bool false, .int .u64 X, .int .u64 Y]) (t := 31) (by simp) 1 rfl
          have c_b1_2 := HR0.out.cell (b := b1) (cs := #[.bool false, .int .u64 X, .int .u64 Y]) (t := 31) (by simp) 2 rfl
          go_wp2_with fail
          refine (cTwice x y z ix iy iz _).mono ?_
          rintro e v1 ⟨rfl, hv1⟩
          have K1 := Lib.hid (HR0.out.next hv1)
          clear c_b5_0 c_b5_1 c_b5_2 c_b1_0 c_b1_1 c_b1_2
          clear hv1 HR0
          obtain ⟨x1, hx1⟩ : ∃ q9 : Int, (((Obol.twC (x.toNat, y.toNat, z.toNat)).1 : Nat) : Int) = q9 := ⟨_, rfl⟩
          obtain ⟨y1, hy1⟩ : ∃ q9 : Int, (((Obol.twC (x.toNat, y.toNat, z.toNat)).2.1 : Nat) : Int) = q9 := ⟨_, rfl⟩
          obtain ⟨z1, hz1⟩ : ∃ q9 : Int, (((Obol.twC (x.toNat, y.toNat, z.toNat)).2.2 : Nat) : Int) = q9 := ⟨_, rfl⟩
          rw [hx1, hy1, hz1]
          have e1 : (x1.toNat, y1.toNat, z1.toNat) = (Obol.twC (x.toNat, y.toNat, z.toNat)) := by rw [← hx1, ← hy1, ← hz1]; simp only [Int.toNat_natCast]
          have px1 : 0 ≤ x1 := by omega
          have py1 : 0 ≤ y1 := by omega
          have pz1 : 0 ≤ z1 := by omega
          replace e1 := Lib.hid e1
          clear hx1 hy1 hz1
          have c_b5_0 := K1.out.cell (b := b5) (cs := #[.int .u64 x, .int .u64 y, .int .u64 z]) (t := 113) (by simp) 0 rfl
          have c_b5_1 := K1.out.cell (b := b5) (cs := #[.int .u64 x, .int .u64 y, .int .u64 z]) (t := 113) (by simp) 1 rfl
          have c_b5_2 := K1.out.cell (b := b5) (cs := #[.int .u64 x, .int .u64 y, .int .u64 z]) (t := 113) (by simp) 2 rfl
          have f_b5_0 := K1.out.free (b := b5) (cs := #[.int .u64 x, .int .u64 y, .int .u64 z]) (t := 113) (by simp) 0
          have f_b5_1 := K1.out.free (b := b5) (cs := #[.int .u64 x, .int .u64 y, .int .u64 z]) (t := 113) (by simp) 1
          have f_b5_2 := K1.out.free (b := b5) (cs := #[.int .u64 x, .int .u64 y, .int .u64 z]) (t := 113) (by simp) 2
          go_upto_region 10 with fail
          have J1 : Hid (HR w (((v1.setCell ⟨b5, 0, none⟩ (.int .u64 x1)).setCell ⟨b5, 1, none⟩ (.int .u64 y1)).setCell ⟨b5, 2, none⟩ (.int .u64 z1)) [(b5, #[.int .u64 x1, .int .u64 y1, .int .u64 z1], 113), (b1, #[.bool false, .int .u64 X, .int .u64 Y], 31), (b4, #[.bool false, .int .u64 0, .int .u64 0], 31)]) := Lib.hid (HR.put3 K1.out (by have := hbt.out; simp; omega) (by have := hbt.out; omega))
          clear c_b5_0 c_b5_1 c_b5_2 f_b5_0 f_b5_1 f_b5_2
          generalize ((v1.setCell ⟨b5, 0, none⟩ (.int .u64 x1)).setCell ⟨b5, 1, none⟩ (.int .u64 y1)).setCell ⟨b5, 2, none⟩ (.int .u64 z1) = m1 at J1 ⊢
          clear K1
          have eu2 := Lib.hid (e1.out.trans eu.out)
          have c_b5_0 := J1.out.cell (b := b5) (cs := #[.int .u64 x1, .int .u64 y1, .int .u64 z1]) (t := 113) (by simp) 0 rfl
          have c_b5_1 := J1.out.cell (b := b5) (cs := #[.int .u64 x1, .int .u64 y1, .int .u64 z1]) (t := 113) (by simp) 1 rfl
          have c_b5_2 := J1.out.cell (b := b5) (cs := #[.int .u64 x1, .int .u64 y1, .int .u64 z1]) (t := 113) (by simp) 2 rfl
          have c_b1_0 := J1.out.cell (b := b1) (cs := #[.bool false, .int .u64 X, .int .u64 Y]) (t := 31) (by simp) 0 rfl
          have c_b1_1 := J1.out.cell (b := b1) (cs := #[.bool false, .int .u64 X, .int .u64 Y]) (t := 31) (by simp) 1 rfl
          have c_b1_2 := J1.out.cell (b := b1) (cs := #[.bool false, .int .u64 X, .int .u64 Y]) (t := 31) (by simp) 2 rfl
          go_wp2_with fail
          clear c_b5_0 c_b5_1 c_b5_2 c_b1_0 c_b1_1 c_b1_2
          go_roundw
          case rel => exact ⟨i - 1, x1, y1, z1, rfl, J1, Lib.hid (HI.out.step0 hi hbn.out px1 py1 pz1 eu2.out)⟩
          case measure => simp [intOf]; omega
        · have eu : Hid (Obol.twC (x.toNat, y.toNat, z.toNat) = Obol.upC (x.toNat, y.toNat, z.toNat)) := Lib.hid (by unfold Obol.upC; rw [if_neg (show ¬ z.toNat = 0 by omega)])
          have hbn : Hid (k.toNat / 2 ^ i.toNat % 2 = 1) := Lib.hid (by have := hbit.out; omega)
          have c_b5_0 := HR0.out.cell (b := b5) (cs := #[.int .u64 x, .int .u64 y, .int .u64 z]) (t := 113) (by simp) 0 rfl
          have c_b5_1 := HR0.out.cell (b := b5) (cs := #[.int .u64 x, .int .u64 y, .int .u64 z]) (t := 113) (by simp) 1 rfl
          have c_b5_2 := HR0.out.cell (b := b5) (cs := #[.int .u64 x, .int .u64 y, .int .u64 z]) (t := 113) (by simp) 2 rfl
          have c_b1_0 := HR0.out.cell (b := b1) (cs := #[.bool false, .int .u64 X, .int .u64 Y]) (t := 31) (by simp) 0 rfl
          have c_b1_1 := HR0.out.cell (b := b1) (cs := #[.bool false, .int .u64 X, .int .u64 Y]) (t := 31) (by simp) 1 rfl
          have c_b1_2 := HR0.out.cell (b := b1) (cs := #[.bool false, .int .u64 X, .int .u64 Y]) (t := 31) (by simp) 2 rfl
          go_wp2_with fail
          refine (cTwice x y z ix iy iz _).mono ?_
          rintro e v1 ⟨rfl, hv1⟩
          have K1 := Lib.hid (HR0.out.next hv1)
          clear c_b5_0 c_b5_1 c_b5_2 c_b1_0 c_b1_1 c_b1_2
          clear hv1 HR0
          obtain ⟨x1, hx1⟩ : ∃ q9 : Int, (((Obol.twC (x.toNat, y.toNat, z.toNat)).1 : Nat) : Int) = q9 := ⟨_, rfl⟩
          obtain ⟨y1, hy1⟩ : ∃ q9 : Int, (((Obol.twC (x.toNat, y.toNat, z.toNat)).2.1 : Nat) : Int) = q9 := ⟨_, rfl⟩
          obtain ⟨z1, hz1⟩ : ∃ q9 : Int, (((Obol.twC (x.toNat, y.toNat, z.toNat)).2.2 : Nat) : Int) = q9 := ⟨_, rfl⟩
          rw [hx1, hy1, hz1]
          have e1 : (x1.toNat, y1.toNat, z1.toNat) = (Obol.twC (x.toNat, y.toNat, z.toNat)) := by rw [← hx1, ← hy1, ← hz1]; simp only [Int.toNat_natCast]
          have px1 : 0 ≤ x1 := by omega
          have py1 : 0 ≤ y1 := by omega
          have pz1 : 0 ≤ z1 := by omega
          replace e1 := Lib.hid e1
          clear hx1 hy1 hz1
          have c_b5_0 := K1.out.cell (b := b5) (cs := #[.int .u64 x, .int .u64 y, .int .u64 z]) (t := 113) (by simp) 0 rfl
          have c_b5_1 := K1.out.cell (b := b5) (cs := #[.int .u64 x, .int .u64 y, .int .u64 z]) (t := 113) (by simp) 1 rfl
          have c_b5_2 := K1.out.cell (b := b5) (cs := #[.int .u64 x, .int .u64 y, .int .u64 z]) (t := 113) (by simp) 2 rfl
          have f_b5_0 := K1.out.free (b := b5) (cs := #[.int .u64 x, .int .u64 y, .int .u64 z]) (t := 113) (by simp) 0
          have f_b5_1 := K1.out.free (b := b5) (cs := #[.int .u64 x, .int .u64 y, .int .u64 z]) (t := 113) (by simp) 1
          have f_b5_2 := K1.out.free (b := b5) (cs := #[.int .u64 x, .int .u64 y, .int .u64 z]) (t := 113) (by simp) 2
          go_upto_region 10 with fail
          have J1 : Hid (HR w (((v1.setCell ⟨b5, 0, none⟩ (.int .u64 x1)).setCell ⟨b5, 1, none⟩ (.int .u64 y1)).setCell ⟨b5, 2, none⟩ (.int .u64 z1)) [(b5, #[.int .u64 x1, .int .u64 y1, .int .u64 z1], 113), (b1, #[.bool false, .int .u64 X, .int .u64 Y], 31), (b4, #[.bool false, .int .u64 0, .int .u64 0], 31)]) := Lib.hid (HR.put3 K1.out (by have := hbt.out; simp; omega) (by have := hbt.out; omega))
          clear c_b5_0 c_b5_1 c_b5_2 f_b5_0 f_b5_1 f_b5_2
          generalize ((v1.setCell ⟨b5, 0, none⟩ (.int .u64 x1)).setCell ⟨b5, 1, none⟩ (.int .u64 y1)).setCell ⟨b5, 2, none⟩ (.int .u64 z1) = m1 at J1 ⊢
          clear K1
          have eu2 := Lib.hid (e1.out.trans eu.out)
          have c_b5_0 := J1.out.cell (b := b5) (cs := #[.int .u64 x1, .int .u64 y1, .int .u64 z1]) (t := 113) (by simp) 0 rfl
          have c_b5_1 := J1.out.cell (b := b5) (cs := #[.int .u64 x1, .int .u64 y1, .int .u64 z1]) (t := 113) (by simp) 1 rfl
          have c_b5_2 := J1.out.cell (b := b5) (cs := #[.int .u64 x1, .int .u64 y1, .int .u64 z1]) (t := 113) (by simp) 2 rfl
          have c_b1_0 := J1.out.cell (b := b1) (cs := #[.bool false, .int .u64 X, .int .u64 Y]) (t := 31) (by simp) 0 rfl
          have c_b1_1 := J1.out.cell (b := b1) (cs := #[.bool false, .int .u64 X, .int .u64 Y]) (t := 31) (by simp) 1 rfl
          have c_b1_2 := J1.out.cell (b := b1) (cs := #[.bool false, .int .u64 X, .int .u64 Y]) (t := 31) (by simp) 2 rfl
          go_wp2_with fail
          refine (cMore x1 y1 z1 X Y px1 py1 pz1 hX hY _).mono ?_
          rintro e v2 ⟨rfl, hv2⟩
          have K2 := Lib.hid (J1.out.next hv2)
          clear c_b5_0 c_b5_1 c_b5_2 c_b1_0 c_b1_1 c_b1_2
          clear hv2 J1
          obtain ⟨x2, hx2⟩ : ∃ q9 : Int, (((Obol.moC (x1.toNat, y1.toNat, z1.toNat) (X.toNat, Y.toNat)).1 : Nat) : Int) = q9 := ⟨_, rfl⟩
          obtain ⟨y2, hy2⟩ : ∃ q9 : Int, (((Obol.moC (x1.toNat, y1.toNat, z1.toNat) (X.toNat, Y.toNat)).2.1 : Nat) : Int) = q9 := ⟨_, rfl⟩
          obtain ⟨z2, hz2⟩ : ∃ q9 : Int, (((Obol.moC (x1.toNat, y1.toNat, z1.toNat) (X.toNat, Y.toNat)).2.2 : Nat) : Int) = q9 := ⟨_, rfl⟩
          rw [hx2, hy2, hz2]
          have e2 : (x2.toNat, y2.toNat, z2.toNat) = (Obol.moC (x1.toNat, y1.toNat, z1.toNat) (X.toNat, Y.toNat)) := by rw [← hx2, ← hy2, ← hz2]; simp only [Int.toNat_natCast]
          have px2 : 0 ≤ x2 := by omega
          have py2 : 0 ≤ y2 := by omega
          have pz2 : 0 ≤ z2 := by omega
          replace e2 := Lib.hid e2
          clear hx2 hy2 hz2
          have c_b5_0 := K2.out.cell (b := b5) (cs := #[.int .u64 x1, .int .u64 y1, .int .u64 z1]) (t := 113) (by simp) 0 rfl
          have c_b5_1 := K2.out.cell (b := b5) (cs := #[.int .u64 x1, .int .u64 y1, .int .u64 z1]) (t := 113) (by simp) 1 rfl
          have c_b5_2 := K2.out.cell (b := b5) (cs := #[.int .u64 x1, .int .u64 y1, .int .u64 z1]) (t := 113) (by simp) 2 rfl
          have f_b5_0 := K2.out.free (b := b5) (cs := #[.int .u64 x1, .int .u64 y1, .int .u64 z1]) (t := 113) (by simp) 0
          have f_b5_1 := K2.out.free (b := b5) (cs := #[.int .u64 x1, .int .u64 y1, .int .u64 z1]) (t := 113) (by simp) 1
          have f_b5_2 := K2.out.free (b := b5) (cs := #[.int .u64 x1, .int .u64 y1, .int .u64 z1]) (t := 113) (by simp) 2
          go_wp2_with fail
          have J2 : Hid (HR w (((v2.setCell ⟨b5, 0, none⟩ (.int .u64 x2)).setCell ⟨b5, 1, none⟩ (.int .u64 y2)).setCell ⟨b5, 2, none⟩ (.int .u64 z2)) [(b5, #[.int .u64 x2, .int .u64 y2, .int .u64 z2], 113), (b1, #[.bool false, .int .u64 X, .int .u64 Y], 31), (b4, #[.bool false, .int .u64 0, .int .u64 0], 31)]) := Lib.hid (HR.put3 K2.out (by have := hbt.out; simp; omega) (by have := hbt.out; omega))
          clear c_b5_0 c_b5_1 c_b5_2 f_b5_0 f_b5_1 f_b5_2
          go_roundw
          case rel => exact ⟨i - 1, x2, y2, z2, rfl, J2, Lib.hid (HI.out.step1 hi hbn.out px1 py1 pz1 px2 py2 pz2 eu2.out e2.out)⟩
          case measure => simp [intOf]; omega
      · rcases hb01 with rfl | rfl
        · have hz0 : ¬ 0 < z := by omega
          obtain rfl : z = 0 := by omega
          clear hz
          have eu : Hid ((x.toNat, y.toNat, (0 : Int).toNat) = Obol.upC (x.toNat, y.toNat, (0 : Int).toNat)) := Lib.hid (by unfold Obol.upC; exact (if_pos (show (x.toNat, y.toNat, (0 : Int).toNat).2.2 = 0 from rfl)).symm)
          have hbn : Hid (k.toNat / 2 ^ i.toNat % 2 ≠ 1) := Lib.hid (by have := hbit.out; omega)
          have c_b5_0 := HR0.out.cell (b := b5) (cs := #[.int .u64 x, .int .u64 y, .int .u64 0]) (t := 113) (by simp) 0 rfl
          have c_b5_1 := HR0.out.cell (b := b5) (cs := #[.int .u64 x, .int .u64 y, .int .u64 0]) (t := 113) (by simp) 1 rfl
          have c_b5_2 := HR0.out.cell (b := b5) (cs := #[.int .u64 x, .int .u64 y, .int .u64 0]) (t := 113) (by simp) 2 rfl
          have c_b1_0 := HR0.out.cell (b := b1) (cs := #[.bool false, .int .u64 X, .int .u64 Y]) (t := 31) (by simp) 0 rfl
          have c_b1_1 := HR0.out.cell (b := b1) (cs := #[.bool false, .int .u64 X, .int .u64 Y]) (t := 31) (by simp) 1 rfl
          have c_b1_2 := HR0.out.cell (b := b1) (cs := #[.bool false, .int .u64 X, .int .u64 Y]) (t := 31) (by simp) 2 rfl
          go_wp2_with fail
          clear c_b5_0 c_b5_1 c_b5_2 c_b1_0 c_b1_1 c_b1_2
          go_roundw
          case rel => exact ⟨i - 1, x, y, 0, rfl, HR0, Lib.hid (HI.out.step0 hi hbn.out ix iy (by omega) eu.out)⟩
          case measure => simp [intOf]; omega
        · have hz0 : ¬ 0 < z := by omega
          obtain rfl : z = 0 := by omega
          clear hz
          have eu : Hid ((x.toNat, y.toNat, (0 : Int).toNat) = Obol.upC (x.toNat, y.toNat, (0 : Int).toNat)) := Lib.hid (by unfold Obol.upC; exact (if_pos (show (x.toNat, y.toNat, (0 : Int).toNat).2.2 = 0 from rfl)).symm)
          have hbn : Hid (k.toNat / 2 ^ i.toNat % 2 = 1) := Lib.hid (by have := hbit.out; omega)
          have c_b5_0 := HR0.out.cell (b := b5) (cs := #[.int .u64 x, .int .u64 y, .int .u64 0]) (t := 113) (by simp) 0 rfl
          have c_b5_1 := HR0.out.cell (b := b5) (cs := #[.int .u64 x, .int .u64 y, .int .u64 0]) (t := 113) (by simp) 1 rfl
          have c_b5_2 := HR0.out.cell (b := b5) (cs := #[.int .u64 x, .int .u64 y, .int .u64 0]) (t := 113) (by simp) 2 rfl
          have c_b1_0 := HR0.out.cell (b := b1) (cs := #[.bool false, .int .u64 X, .int .u64 Y]) (t := 31) (by simp) 0 rfl
          have c_b1_1 := HR0.out.cell (b := b1) (cs := #[.bool false, .int .u64 X, .int .u64 Y]) (t := 31) (by simp) 1 rfl
          have c_b1_2 := HR0.out.cell (b := b1) (cs := #[.bool false, .int .u64 X, .int .u64 Y]) (t := 31) (by simp) 2 rfl
          go_wp2_with fail
          refine (cMore x y 0 X Y ix iy (by omega) hX hY _).mono ?_
          rintro e v1 ⟨rfl, hv1⟩
          have K1 := Lib.hid (HR0.out.next hv1)
          clear c_b5_0 c_b5_1 c_b5_2 c_b1_0 c_b1_1 c_b1_2
          clear hv1 HR0
          obtain ⟨x1, hx1⟩ : ∃ q9 : Int, (((Obol.moC (x.toNat, y.toNat, (0 : Int).toNat) (X.toNat, Y.toNat)).1 : Nat) : Int) = q9 := ⟨_, rfl⟩
          obtain ⟨y1, hy1⟩ : ∃ q9 : Int, (((Obol.moC (x.toNat, y.toNat, (0 : Int).toNat) (X.toNat, Y.toNat)).2.1 : Nat) : Int) = q9 := ⟨_, rfl⟩
          obtain ⟨z1, hz1⟩ : ∃ q9 : Int, (((Obol.moC (x.toNat, y.toNat, (0 : Int).toNat) (X.toNat, Y.toNat)).2.2 : Nat) : Int) = q9 := ⟨_, rfl⟩
          rw [hx1, hy1, hz1]
          have e1 : (x1.toNat, y1.toNat, z1.toNat) = (Obol.moC (x.toNat, y.toNat, (0 : Int).toNat) (X.toNat, Y.toNat)) := by rw [← hx1, ← hy1, ← hz1]; simp only [Int.toNat_natCast]
          have px1 : 0 ≤ x1 := by omega
          have py1 : 0 ≤ y1 := by omega
          have pz1 : 0 ≤ z1 := by omega
          replace e1 := Lib.hid e1
          clear hx1 hy1 hz1
          have c_b5_0 := K1.out.cell (b := b5) (cs := #[.int .u64 x, .int .u64 y, .int .u64 0]) (t := 113) (by simp) 0 rfl
          have c_b5_1 := K1.out.cell (b := b5) (cs := #[.int .u64 x, .int .u64 y, .int .u64 0]) (t := 113) (by simp) 1 rfl
          have c_b5_2 := K1.out.cell (b := b5) (cs := #[.int .u64 x, .int .u64 y, .int .u64 0]) (t := 113) (by simp) 2 rfl
          have f_b5_0 := K1.out.free (b := b5) (cs := #[.int .u64 x, .int .u64 y, .int .u64 0]) (t := 113) (by simp) 0
          have f_b5_1 := K1.out.free (b := b5) (cs := #[.int .u64 x, .int .u64 y, .int .u64 0]) (t := 113) (by simp) 1
          have f_b5_2 := K1.out.free (b := b5) (cs := #[.int .u64 x, .int .u64 y, .int .u64 0]) (t := 113) (by simp) 2
          go_wp2_with fail
          have J1 : Hid (HR w (((v1.setCell ⟨b5, 0, none⟩ (.int .u64 x1)).setCell ⟨b5, 1, none⟩ (.int .u64 y1)).setCell ⟨b5, 2, none⟩ (.int .u64 z1)) [(b5, #[.int .u64 x1, .int .u64 y1, .int .u64 z1], 113), (b1, #[.bool false, .int .u64 X, .int .u64 Y], 31), (b4, #[.bool false, .int .u64 0, .int .u64 0], 31)]) := Lib.hid (HR.put3 K1.out (by have := hbt.out; simp; omega) (by have := hbt.out; omega))
          clear c_b5_0 c_b5_1 c_b5_2 f_b5_0 f_b5_1 f_b5_2
          go_roundw
          case rel => exact ⟨i - 1, x1, y1, z1, rfl, J1, Lib.hid (HI.out.step1 hi hbn.out ix iy (by omega) px1 py1 pz1 eu.out e1.out)⟩
          case measure => simp [intOf]; omega
    · obtain rfl : i = -1 := by omega
      obtain ⟨hz1, hinf⟩ := jac_end hpc.out HI.out
      have hI := fun w => mInvP z iz hz1 w
      by_cases hz : z = 0
      · subst hz
        have hB : Hid (b = true) := Lib.hid (by rw [← hb.out, hinf]; rfl)
        have hI2 : ∀ w, Calls Try.prog 76 #[.int .u64 1152921505151057923, .int .u64 0] w fun e w' => e = .returned (.tuple #[.int .u64 0, errV 2]) ∧ ∃ n, w' = w.drewN n := fun w => (hI w).mono (by
          rintro e w' ⟨⟨u, v, hu, hv, he⟩, hw⟩
          have : v ≠ 1 := by rw [hv, show (0 : Int).toNat = 0 from rfl, Nat.gcd_zero_right]; decide +kernel
          rw [if_neg this] at he
          exact ⟨he, hw⟩)
        have hI3 := Lib.hid hI2
        clear hI hI2 hinf
        have c_b5_0 := HR0.out.cell (b := b5) (cs := #[.int .u64 x, .int .u64 y, .int .u64 0]) (t := 113) (by simp) 0 rfl
        have c_b5_1 := HR0.out.cell (b := b5) (cs := #[.int .u64 x, .int .u64 y, .int .u64 0]) (t := 113) (by simp) 1 rfl
        have c_b5_2 := HR0.out.cell (b := b5) (cs := #[.int .u64 x, .int .u64 y, .int .u64 0]) (t := 113) (by simp) 2 rfl
        go_wp2_with fail
        refine (hI3.out _).mono ?_
        rintro e wq ⟨rfl, n, rfl⟩
        go_wp2_with fail
        refine (cInf _).mono ?_
        rintro e v1 ⟨rfl, hv1⟩
        have K1 := Lib.hid ((HR0.out.drewN n).next hv1)
        clear c_b5_0 c_b5_1 c_b5_2
        clear hv1
        have c_b4_0 := K1.out.cell (b := b4) (cs := #[.bool false, .int .u64 0, .int .u64 0]) (t := 31) (by simp) 0 rfl
        have c_b4_1 := K1.out.cell (b := b4) (cs := #[.bool false, .int .u64 0, .int .u64 0]) (t := 31) (by simp) 1 rfl
        have c_b4_2 := K1.out.cell (b := b4) (cs := #[.bool false, .int .u64 0, .int .u64 0]) (t := 31) (by simp) 2 rfl
        have f_b4_0 := K1.out.free (b := b4) (cs := #[.bool false, .int .u64 0, .int .u64 0]) (t := 31) (by simp) 0
        have f_b4_1 := K1.out.free (b := b4) (cs := #[.bool false, .int .u64 0, .int .u64 0]) (t := 31) (by simp) 1
        have f_b4_2 := K1.out.free (b := b4) (cs := #[.bool false, .int .u64 0, .int .u64 0]) (t := 31) (by simp) 2
        have hL := Lib.hid (HR.put3 (u := .bool true) (v := .int .u64 0) (x := .int .u64 0) (HR.sub (qs := [(b4, #[.bool false, .int .u64 0, .int .u64 0], 31)]) K1.out (by simp)) (by simp) (by have := hbt.out; omega))
        have s0 := hL.out.cell (b := b4) (cs := #[.bool true, .int .u64 0, .int .u64 0]) (t := 31) (by simp) 0 rfl
        have s1 := hL.out.cell (b := b4) (cs := #[.bool true, .int .u64 0, .int .u64 0]) (t := 31) (by simp) 1 rfl
        have s2 := hL.out.cell (b := b4) (cs := #[.bool true, .int .u64 0, .int .u64 0]) (t := 31) (by simp) 2 rfl
        go_wp2_with fail
        refine bodyPost_ret (v := ptV true 0 0) (by simp [results, Try.results54, go_sem, s0, s1, s2]) rfl ⟨⟨0, 0, by rw [hB.out]⟩, hL.out.2⟩
      · have hB : Hid (b = false) := Lib.hid (by rw [← hb.out, hinf]; exact decide_eq_false hz)
        have hI2 : ∀ w, Calls Try.prog 76 #[.int .u64 1152921505151057923, .int .u64 z] w fun e w' => ∃ u, 0 ≤ u ∧ e = .returned (.tuple #[.int .u64 u, .nilIface]) ∧ ∃ n, w' = w.drewN n := fun w => (hI w).mono (by
          rintro e w' ⟨⟨u, v, hu, hv, he⟩, hw⟩
          have : v = 1 := by rw [hv, Obol.gcd_P (by omega) (by rw [Obol.P_def]; omega)]; rfl
          rw [if_pos this] at he
          exact ⟨u, hu, he, hw⟩)
        have hI3 := Lib.hid hI2
        replace hz := Lib.hid hz
        clear hI hI2 hinf
        have c_b5_0 := HR0.out.cell (b := b5) (cs := #[.int .u64 x, .int .u64 y, .int .u64 z]) (t := 113) (by simp) 0 rfl
        have c_b5_1 := HR0.out.cell (b := b5) (cs := #[.int .u64 x, .int .u64 y, .int .u64 z]) (t := 113) (by simp) 1 rfl
        have c_b5_2 := HR0.out.cell (b := b5) (cs := #[.int .u64 x, .int .u64 y, .int .u64 z]) (t := 113) (by simp) 2 rfl
        go_wp2_with fail
        refine (hI3.out _).mono ?_
        rintro e wq ⟨inv, hinv, rfl, n, rfl⟩
        go_wp2_with (go_at_call 72; refine (cMul _ _ hinv hinv _).mono ?_; rintro e w' ⟨rfl, n2, rfl⟩)
        clear c_b5_0 c_b5_1 c_b5_2
        have H7 := Lib.hid (HR.sub (qs := [(b5, #[.int .u64 x, .int .u64 y, .int .u64 z], 113)]) HR0.out (by simp))
        have R2 := Lib.hid (HR0.out.row (b := b4) (cs := #[.bool false, .int .u64 0, .int .u64 0]) (t := 31) (by simp))
        refine wp_region_noPanic ?_
        refine wp_region_held_drew (S := fun wq => wq.cell? ⟨b5, 0, none⟩ = some (.int .u64 x) ∧ wq.cell? ⟨b5, 1, none⟩ = some (.int .u64 y) ∧ wq.cell? ⟨b5, 2, none⟩ = some (.int .u64 z) ∧ HR w wq [(b5, #[.int .u64 x, .int .u64 y, .int .u64 z], 113)]) (by kernel_rfl) ?_ (fun hHeld => ?_)
        · exact ⟨HR.cell (HR.like H7.out rfl rfl rfl rfl) (b := b5) (cs := #[.int .u64 x, .int .u64 y, .int .u64 z]) (t := 113) (by simp) 0 rfl, HR.cell (HR.like H7.out rfl rfl rfl rfl) (b := b5) (cs := #[.int .u64 x, .int .u64 y, .int .u64 z]) (t := 113) (by simp) 1 rfl, HR.cell (HR.like H7.out rfl rfl rfl rfl) (b := b5) (cs := #[.int .u64 x, .int .u64 y, .int .u64 z]) (t := 113) (by simp) 2 rfl, (HR.like H7.out rfl rfl rfl rfl)⟩
        refine tk 0 hHeld ?_; refine tk 1 hHeld ?_; refine tk 2 hHeld ?_; refine tk 4 hHeld ?_; refine tk 5 hHeld ?_; refine tk 6 hHeld ?_; refine tk 7 hHeld ?_
        refine stepH 3 (by kernel_rfl) rfl (by rfl) (fun K hK => ?_)
        go_simp
        refine (cMul _ _ (by omega) (by omega) _).mono ?_
        rintro e wq' ⟨rfl, nq1, rfl⟩
        refine hK.out _ _ ?_ (fun hHeld => ?_)
        · exact ⟨HR.cell (HR.like hHeld.2.2.2 rfl rfl rfl rfl) (b := b5) (cs := #[.int .u64 x, .int .u64 y, .int .u64 z]) (t := 113) (by simp) 0 rfl, HR.cell (HR.like hHeld.2.2.2 rfl rfl rfl rfl) (b := b5) (cs := #[.int .u64 x, .int .u64 y, .int .u64 z]) (t := 113) (by simp) 1 rfl, HR.cell (HR.like hHeld.2.2.2 rfl rfl rfl rfl) (b := b5) (cs := #[.int .u64 x, .int .u64 y, .int .u64 z]) (t := 113) (by simp) 2 rfl, (HR.like hHeld.2.2.2 rfl rfl rfl rfl)⟩
        clear hK K
        try simp only [Act.put, List.setIfInBounds_toArray, List.set_cons_zero, List.set_cons_succ]
        refine stepH 8 (by kernel_rfl) rfl (by rfl) (fun K hK => ?_)
        go_simp
        refine (cMul _ _ (by omega) (by omega) _).mono ?_
        rintro e wq' ⟨rfl, nq2, rfl⟩
        refine hK.out _ _ ?_ (fun hHeld => ?_)
        · exact ⟨HR.cell (HR.like hHeld.2.2.2 rfl rfl rfl rfl) (b := b5) (cs := #[.int .u64 x, .int .u64 y, .int .u64 z]) (t := 113) (by simp) 0 rfl, HR.cell (HR.like hHeld.2.2.2 rfl rfl rfl rfl) (b := b5) (cs := #[.int .u64 x, .int .u64 y, .int .u64 z]) (t := 113) (by simp) 1 rfl, HR.cell (HR.like hHeld.2.2.2 rfl rfl rfl rfl) (b := b5) (cs := #[.int .u64 x, .int .u64 y, .int .u64 z]) (t := 113) (by simp) 2 rfl, (HR.like hHeld.2.2.2 rfl rfl rfl rfl)⟩
        clear hK K
        try simp only [Act.put, List.setIfInBounds_toArray, List.set_cons_zero, List.set_cons_succ]
        refine stepH 9 (by kernel_rfl) rfl (by rfl) (fun K hK => ?_)
        go_simp
        refine (cMul _ _ (by omega) (by omega) _).mono ?_
        rintro e wq' ⟨rfl, nq3, rfl⟩
        refine hK.out _ _ ?_ (fun hHeld => ?_)
        · exact ⟨HR.cell (HR.like hHeld.2.2.2 rfl rfl rfl rfl) (b := b5) (cs := #[.int .u64 x, .int .u64 y, .int .u64 z]) (t := 113) (by simp) 0 rfl, HR.cell (HR.like hHeld.2.2.2 rfl rfl rfl rfl) (b := b5) (cs := #[.int .u64 x, .int .u64 y, .int .u64 z]) (t := 113) (by simp) 1 rfl, HR.cell (HR.like hHeld.2.2.2 rfl rfl rfl rfl) (b := b5) (cs := #[.int .u64 x, .int .u64 y, .int .u64 z]) (t := 113) (by simp) 2 rfl, (HR.like hHeld.2.2.2 rfl rfl rfl rfl)⟩
        clear hK K
        try simp only [Act.put, List.setIfInBounds_toArray, List.set_cons_zero, List.set_cons_succ]
        refine tk 10 hHeld ?_
        have rc0 : ∀ n, (wr.drewN n).cell? ⟨b4, 0, none⟩ = some (.bool false) := fun n => (R2.out.drewN n).cell 0 rfl
        have rc1 : ∀ n, (wr.drewN n).cell? ⟨b4, 1, none⟩ = some (.int .u64 0) := fun n => (R2.out.drewN n).cell 1 rfl
        have rc2 : ∀ n, (wr.drewN n).cell? ⟨b4, 2, none⟩ = some (.int .u64 0) := fun n => (R2.out.drewN n).cell 2 rfl
        have rf0 : ∀ n, (wr.drewN n).frozen? ⟨b4, 0, none⟩ = false := fun n => (R2.out.drewN n).free 0
        have rf1 : ∀ n, (wr.drewN n).frozen? ⟨b4, 1, none⟩ = false := fun n => (R2.out.drewN n).free 1
        have rf2 : ∀ n, (wr.drewN n).frozen? ⟨b4, 2, none⟩ = false := fun n => (R2.out.drewN n).free 2
        refine stepH 11 (by kernel_rfl) rfl (by rfl) (fun K hK => ?_)
        go_simp
        refine hK.out _ _ ?_ (fun hHeld => ?_)
        · exact ⟨HR.cell (HR.other (HR.other (HR.other (H7.out.drewN _) (by simp; have := hbt.out; omega) (by have := hbt.out; omega)) (by simp; have := hbt.out; omega) (by have := hbt.out; omega)) (by simp; have := hbt.out; omega) (by have := hbt.out; omega)) (b := b5) (cs := #[.int .u64 x, .int .u64 y, .int .u64 z]) (t := 113) (by simp) 0 rfl, HR.cell (HR.other (HR.other (HR.other (H7.out.drewN _) (by simp; have := hbt.out; omega) (by have := hbt.out; omega)) (by simp; have := hbt.out; omega) (by have := hbt.out; omega)) (by simp; have := hbt.out; omega) (by have := hbt.out; omega)) (b := b5) (cs := #[.int .u64 x, .int .u64 y, .int .u64 z]) (t := 113) (by simp) 1 rfl, HR.cell (HR.other (HR.other (HR.other (H7.out.drewN _) (by simp; have := hbt.out; omega) (by have := hbt.out; omega)) (by simp; have := hbt.out; omega) (by have := hbt.out; omega)) (by simp; have := hbt.out; omega) (by have := hbt.out; omega)) (b := b5) (cs := #[.int .u64 x, .int .u64 y, .int .u64 z]) (t := 113) (by simp) 2 rfl, (HR.other (HR.other (HR.other (H7.out.drewN _) (by simp; have := hbt.out; omega) (by have := hbt.out; omega)) (by simp; have := hbt.out; omega) (by have := hbt.out; omega)) (by simp; have := hbt.out; omega) (by have := hbt.out; omega))⟩
        clear hK K
        try simp only [Act.put, List.setIfInBounds_toArray, List.set_cons_zero, List.set_cons_succ]
        refine wpAnyH_done (by kernel_rfl) (NoPanic.normal ?_) _
        have hL := Lib.hid hHeld.2.2.2.2
        clear hHeld rc0 rc1 rc2 rf0 rf1 rf2
        have s0 : ∀ n v0 v1 v2, ((((wr.drewN n).setCell ⟨b4, 0, none⟩ v0).setCell ⟨b4, 1, none⟩ v1).setCell ⟨b4, 2, none⟩ v2).cell? ⟨b4, 0, none⟩ = some v0 := fun n v0 v1 v2 => (R2.out.drewN n).set3.cell 0 rfl
        have s1 : ∀ n v0 v1 v2, ((((wr.drewN n).setCell ⟨b4, 0, none⟩ v0).setCell ⟨b4, 1, none⟩ v1).setCell ⟨b4, 2, none⟩ v2).cell? ⟨b4, 1, none⟩ = some v1 := fun n v0 v1 v2 => (R2.out.drewN n).set3.cell 1 rfl
        have s2 : ∀ n v0 v1 v2, ((((wr.drewN n).setCell ⟨b4, 0, none⟩ v0).setCell ⟨b4, 1, none⟩ v1).setCell ⟨b4, 2, none⟩ v2).cell? ⟨b4, 2, none⟩ = some v2 := fun n v0 v1 v2 => (R2.out.drewN n).set3.cell 2 rfl
        go_wp2_with fail
        refine bodyPost_ret (v := ptV false _ _) (by simp [results, Try.results54, go_sem, s0, s1, s2]; try exact ⟨rfl, rfl⟩) rfl ⟨⟨_, _, by rw [hB.out]⟩, hL.out⟩

theorem field_inf (b : Bool) (x y : Value) (w : World) : (Instr.field 31 (.agg #[.bool b, x, y]) 0).run Try.prog w = .ok (.bool b) w := by kernel_rfl
set_option maxRecDepth 8000 in
theorem cIn (i : Bool) (X Y : Int) (hX : 0 ≤ X) (hY : 0 ≤ Y) (w : World) :
    Calls Try.prog 25 #[ptV i X Y] w fun e w' => e = .returned (.bool (inPt i X Y)) ∧ Below w.heap.size w w' := by
  cases hp : isPt i X Y
  · have hI := Lib.hid hp
    have hR : Hid (inPt i X Y = false) := Lib.hid (by unfold inPt; rw [hp, Bool.false_and])
    clear hp
    go_enter Try.func25, Try.ntmps25
    go_wp2_with (go_at_call 53; refine (cIs _ _ _ hX hY _).mono ?_; rintro e w1 ⟨rfl, hb⟩; rw [hI.out]; obtain ⟨hc, hf⟩ := bcell hb; have hz := hb.size; (try simp at hz))
    go_ret
    exact ⟨by rw [hR.out]; rfl, by repeat (first | exact Below.refl _ _ | assumption | apply bDrewN | apply bDrew | apply bAlloc | refine bSet ?_ (by omega) | refine bThen ?_ (by assumption) (by simp <;> omega))⟩
  · have hI := Lib.hid hp
    have hR : Hid (inPt i X Y = infC i X Y Obol.R) := Lib.hid (by unfold inPt; rw [hp, Bool.true_and])
    obtain ⟨b, hb⟩ : ∃ b, infC i X Y Obol.R = b := ⟨_, rfl⟩
    have hM : Hid (∀ w, Calls Try.prog 54 #[ptV i X Y, .int .u64 288230376287764481] w (MulSaid b w)) := Lib.hid (by
      cases i
      · exact fun w => cMulPt X Y 288230376287764481 b hX hY (by omega) (by omega) hp (by rw [litR]; exact hb) w
      · have h1 : X = 0 ∧ Y = 0 := by
          have h2 : (X == 0 && Y == 0) = true := hp
          simpa using h2
        obtain ⟨rfl, rfl⟩ := h1
        rw [← hb]
        exact fun w => cMulInf 288230376287764481 w (by omega))
    rw [hb] at hR
    replace hb := Lib.hid hb
    clear hp
    have hfl := field_inf
    go_enter Try.func25, Try.ntmps25
    go_wp2_with (first | (go_at_call 53; refine (cIs _ _ _ hX hY _).mono ?_; rintro e w1 ⟨rfl, hb⟩; rw [hI.out]; obtain ⟨hc, hf⟩ := bcell hb; have hz := hb.size; (try simp at hz)) | (go_at_call 54; refine (hM.out _).mono ?_; rintro e w2 ⟨⟨x, y, rfl⟩, hb2⟩; replace hb := bThen hb hb2 hb.size; clear hb2; obtain ⟨hc2, hf2⟩ := bcell hb; have hz2 := hb.size; (try simp at hz2)))
    go_ret
    exact ⟨by rw [hR.out]; rfl, by repeat (first | exact Below.refl _ _ | assumption | apply bDrewN | apply bDrew | apply bAlloc | refine bSet ?_ (by omega) | refine bThen ?_ (by assumption) (by simp <;> omega))⟩

end Go.Proofs.Ytkfimfjjmdjbdaa
