import Derived.Test.YtkfimfjjmdjbdaaGreatDoorUc
import Derived.StillTailTactics
import Derived.Test.YtkfimfjjmdjbdaaGreatDoorUa
import Derived.Deep.RegionHeld3
set_option linter.unusedVariables false
set_option linter.unusedSimpArgs false
set_option linter.unusedSectionVars false
/- Walks: package blake: the mixing of four words. -/
namespace Go.Proofs.YtkfimfjjmdjbdaaGreatDoor
open Go.RowKit

theorem word_at {n : Nat} {L : List Nat} (h : Obol.W32 n L) {i : Int} (_h0 : 0 ≤ i) (_h1 : i < n) : ∃ v : Int, ((L.getD i.toNat 0 : Nat) : Int) = v ∧ 0 ≤ v ∧ v ≤ 4294967295 :=
  ⟨_, rfl, by omega, by have := h.lt i.toNat; omega⟩
theorem u32s_at {n : Nat} {L : List Nat} (h : Obol.W32 n L) {i : Int} (h0 : 0 ≤ i) (h1 : i < n) : (u32s L)[i.toNat]? = some (.int .u32 ((L.getD i.toNat 0 : Nat) : Int)) := u32s_get h _ (by omega)

set_option maxRecDepth 8000 in
set_option maxHeartbeats 2000000 in
theorem bMix (k : Nat) (a b c d : Int) (ha0 : 0 ≤ a) (hb0 : 0 ≤ b) (hc0 : 0 ≤ c) (hd0 : 0 ≤ d) (ha1 : a < 16) (hb1 : b < 16) (hc1 : c < 16) (hd1 : d < 16)
    (x y : Int) (hx : 0 ≤ x) (hy : 0 ≤ y) (L0 : List Nat) (H0 : Obol.W32 16 L0) (w0 : World) (R0 : Row w0 k (u32s L0) 120) :
    Calls Tryz.prog 101 #[.pointer (some ⟨k, 0, none⟩), .int .i64 a, .int .i64 b, .int .i64 c, .int .i64 d, .int .u32 x, .int .u32 y] w0 fun e w' =>
      e = .returned (.tuple #[]) ∧ Row w' k (u32s (Obol.mixL L0 a.toNat b.toNat c.toNat d.toNat x.toNat y.toNat)) 120 ∧ Below k w0 w' := by
  have H := Lib.hid H0
  have R := Lib.hid R0
  have B : Hid (Below k w0 w0) := Lib.hid (Below.refl _ _)
  clear H0 R0
  go_enter Tryz.func101, Tryz.ntmps101
  go_wp2_with fail
  -- statement 1
  obtain ⟨va, ea, la, ua⟩ := word_at H.out (i := a) ha0 (by omega)
  have ca : w0.cell? ⟨k, a.toNat, none⟩ = some (.int .u32 va) := R.out.cell a.toNat ((u32s_at H.out ha0 (by omega)).trans (by rw [ea]))
  obtain ⟨vb, eb, lb, ub⟩ := word_at H.out (i := b) hb0 (by omega)
  have cb : w0.cell? ⟨k, b.toNat, none⟩ = some (.int .u32 vb) := R.out.cell b.toNat ((u32s_at H.out hb0 (by omega)).trans (by rw [eb]))
  obtain ⟨z, hz⟩ : ∃ z : Int, (va + (vb + x) % 4294967296) % 4294967296 = z := ⟨_, rfl⟩
  have hZ : z = ((Obol.add3 (L0.getD a.toNat 0) (L0.getD b.toNat 0) x.toNat : Nat) : Int) := by rw [← hz]; exact add3_is ea eb hx
  have f := R.out.free a.toNat
  obtain ⟨L1, q1⟩ : ∃ l, l = Obol.sA L0 a.toNat b.toNat x.toNat := ⟨_, rfl⟩
  have R' : Hid (Row ((w0.setCell ⟨k, a.toNat, none⟩ (.int .u32 z)).drew) k (u32s L1) 120) := Lib.hid (by rw [q1]; exact (rowSet R.out a.toNat _ hZ).drew)
  have H' : Hid (Obol.W32 16 L1) := Lib.hid (by rw [q1]; exact H.out.set a.toNat _ (Obol.add3_lt _ _ _))
  have B' := Lib.hid (bDrew (bSet (u := .int .u32 z) (o := a.toNat) B.out (Nat.le_refl k)))
  have Q1 := Lib.hid q1
  clear hZ q1 R H B ea eb
  go_region
  go_wp2_with fail
  clear f hz ca la ua cb lb ub
  generalize (w0.setCell ⟨k, a.toNat, none⟩ (.int .u32 z)).drew = w1 at R' B' ⊢
  have R := R'; have H := H'; have B := B'; clear R' H' B'
  try clear z
  -- statement 2
  obtain ⟨vd, ed, ld, ud⟩ := word_at H.out (i := d) hd0 (by omega)
  have cd : w1.cell? ⟨k, d.toNat, none⟩ = some (.int .u32 vd) := R.out.cell d.toNat ((u32s_at H.out hd0 (by omega)).trans (by rw [ed]))
  obtain ⟨va, ea, la, ua⟩ := word_at H.out (i := a) ha0 (by omega)
  have ca : w1.cell? ⟨k, a.toNat, none⟩ = some (.int .u32 va) := R.out.cell a.toNat ((u32s_at H.out ha0 (by omega)).trans (by rw [ea]))
  have hq := xor_eq ed ea (H.out.lt _) (H.out.lt _)
  have hql := Obol.xor_lt (H.out.lt d.toNat) (H.out.lt a.toNat)
  obtain ⟨u, hu⟩ : ∃ u : Int, bits .xor .u32 vd va = u := ⟨_, rfl⟩
  rw [hu] at hq
  have cR := fun w => rot16 u (by omega) (by omega) w
  obtain ⟨z, hz⟩ : ∃ z : Int, ((Obol.rotW 16 u.toNat : Nat) : Int) = z := ⟨_, rfl⟩
  have hZ : z = ((Obol.rotW 16 (L1.getD d.toNat 0 ^^^ L1.getD a.toNat 0) : Nat) : Int) := by rw [← hz, hq, Int.toNat_natCast]
  rw [hz] at cR
  replace cR := Lib.hid cR
  clear hz hq
  have f := R.out.free d.toNat
  obtain ⟨L2, q2⟩ : ∃ l, l = Obol.sX L1 16 d.toNat a.toNat := ⟨_, rfl⟩
  have R' : Hid (Row ((w1.setCell ⟨k, d.toNat, none⟩ (.int .u32 z)).drew) k (u32s L2) 120) := Lib.hid (by rw [q2]; exact (rowSet R.out d.toNat _ hZ).drew)
  have H' : Hid (Obol.W32 16 L2) := Lib.hid (by rw [q2]; exact H.out.set d.toNat _ (Obol.rotW_lt _ _ hql))
  have B' := Lib.hid (bDrew (bSet (u := .int .u32 z) (o := d.toNat) B.out (Nat.le_refl k)))
  have Q2 := Lib.hid q2
  clear hZ q2 R H B ed ea hql
  refine wp_region_still_tail 16 (by kernel_rfl) (by kernel_rfl) ?_
  simp only [List.take_succ_cons, List.take_zero, List.drop_succ_cons, List.drop_zero]
  repeat still_step
  still_call (cR.out _)
  repeat still_step
  refine wpStill_nil ?_
  change wpList _ _ _ _ _ w1.drew
  go_wp2_with fail
  clear f cR hu cd ld ud ca la ua
  generalize (w1.setCell ⟨k, d.toNat, none⟩ (.int .u32 z)).drew = w2 at R' B' ⊢
  have R := R'; have H := H'; have B := B'; clear R' H' B'
  try clear z
  -- statement 3
  obtain ⟨vc, ec, lc, uc⟩ := word_at H.out (i := c) hc0 (by omega)
  have cc : w2.cell? ⟨k, c.toNat, none⟩ = some (.int .u32 vc) := R.out.cell c.toNat ((u32s_at H.out hc0 (by omega)).trans (by rw [ec]))
  obtain ⟨vd, ed, ld, ud⟩ := word_at H.out (i := d) hd0 (by omega)
  have cd : w2.cell? ⟨k, d.toNat, none⟩ = some (.int .u32 vd) := R.out.cell d.toNat ((u32s_at H.out hd0 (by omega)).trans (by rw [ed]))
  obtain ⟨z, hz⟩ : ∃ z : Int, (vc + vd) % 4294967296 = z := ⟨_, rfl⟩
  have hZ : z = ((Obol.add2 (L2.getD c.toNat 0) (L2.getD d.toNat 0) : Nat) : Int) := by rw [← hz]; exact add2_is ec ed
  have f := R.out.free c.toNat
  obtain ⟨L3, q3⟩ : ∃ l, l = Obol.sC L2 c.toNat d.toNat := ⟨_, rfl⟩
  have R' : Hid (Row ((w2.setCell ⟨k, c.toNat, none⟩ (.int .u32 z)).drew) k (u32s L3) 120) := Lib.hid (by rw [q3]; exact (rowSet R.out c.toNat _ hZ).drew)
  have H' : Hid (Obol.W32 16 L3) := Lib.hid (by rw [q3]; exact H.out.set c.toNat _ (Obol.add2_lt _ _))
  have B' := Lib.hid (bDrew (bSet (u := .int .u32 z) (o := c.toNat) B.out (Nat.le_refl k)))
  have Q3 := Lib.hid q3
  clear hZ q3 R H B ec ed
  go_region
  go_wp2_with fail
  clear f hz cc lc uc cd ld ud
  generalize (w2.setCell ⟨k, c.toNat, none⟩ (.int .u32 z)).drew = w3 at R' B' ⊢
  have R := R'; have H := H'; have B := B'; clear R' H' B'
  try clear z
  -- statement 4
  obtain ⟨vb, eb, lb, ub⟩ := word_at H.out (i := b) hb0 (by omega)
  have cb : w3.cell? ⟨k, b.toNat, none⟩ = some (.int .u32 vb) := R.out.cell b.toNat ((u32s_at H.out hb0 (by omega)).trans (by rw [eb]))
  obtain ⟨vc, ec, lc, uc⟩ := word_at H.out (i := c) hc0 (by omega)
  have cc : w3.cell? ⟨k, c.toNat, none⟩ = some (.int .u32 vc) := R.out.cell c.toNat ((u32s_at H.out hc0 (by omega)).trans (by rw [ec]))
  have hq := xor_eq eb ec (H.out.lt _) (H.out.lt _)
  have hql := Obol.xor_lt (H.out.lt b.toNat) (H.out.lt c.toNat)
  obtain ⟨u, hu⟩ : ∃ u : Int, bits .xor .u32 vb vc = u := ⟨_, rfl⟩
  rw [hu] at hq
  have cR := fun w => rot12 u (by omega) (by omega) w
  obtain ⟨z, hz⟩ : ∃ z : Int, ((Obol.rotW 12 u.toNat : Nat) : Int) = z := ⟨_, rfl⟩
  have hZ : z = ((Obol.rotW 12 (L3.getD b.toNat 0 ^^^ L3.getD c.toNat 0) : Nat) : Int) := by rw [← hz, hq, Int.toNat_natCast]
  rw [hz] at cR
  replace cR := Lib.hid cR
  clear hz hq
  have f := R.out.free b.toNat
  obtain ⟨L4, q4⟩ : ∃ l, l = Obol.sX L3 12 b.toNat c.toNat := ⟨_, rfl⟩
  have R' : Hid (Row ((w3.setCell ⟨k, b.toNat, none⟩ (.int .u32 z)).drew) k (u32s L4) 120) := Lib.hid (by rw [q4]; exact (rowSet R.out b.toNat _ hZ).drew)
  have H' : Hid (Obol.W32 16 L4) := Lib.hid (by rw [q4]; exact H.out.set b.toNat _ (Obol.rotW_lt _ _ hql))
  have B' := Lib.hid (bDrew (bSet (u := .int .u32 z) (o := b.toNat) B.out (Nat.le_refl k)))
  have Q4 := Lib.hid q4
  clear hZ q4 R H B eb ec hql
  refine wp_region_still_tail 16 (by kernel_rfl) (by kernel_rfl) ?_
  simp only [List.take_succ_cons, List.take_zero, List.drop_succ_cons, List.drop_zero]
  repeat still_step
  still_call (cR.out _)
  repeat still_step
  refine wpStill_nil ?_
  change wpList _ _ _ _ _ w3.drew
  go_wp2_with fail
  clear f cR hu cb lb ub cc lc uc
  generalize (w3.setCell ⟨k, b.toNat, none⟩ (.int .u32 z)).drew = w4 at R' B' ⊢
  have R := R'; have H := H'; have B := B'; clear R' H' B'
  try clear z
  -- statement 5
  obtain ⟨va, ea, la, ua⟩ := word_at H.out (i := a) ha0 (by omega)
  have ca : w4.cell? ⟨k, a.toNat, none⟩ = some (.int .u32 va) := R.out.cell a.toNat ((u32s_at H.out ha0 (by omega)).trans (by rw [ea]))
  obtain ⟨vb, eb, lb, ub⟩ := word_at H.out (i := b) hb0 (by omega)
  have cb : w4.cell? ⟨k, b.toNat, none⟩ = some (.int .u32 vb) := R.out.cell b.toNat ((u32s_at H.out hb0 (by omega)).trans (by rw [eb]))
  obtain ⟨z, hz⟩ : ∃ z : Int, (va + (vb + y) % 4294967296) % 4294967296 = z := ⟨_, rfl⟩
  have hZ : z = ((Obol.add3 (L4.getD a.toNat 0) (L4.getD b.toNat 0) y.toNat : Nat) : Int) := by rw [← hz]; exact add3_is ea eb hy
  have f := R.out.free a.toNat
  obtain ⟨L5, q5⟩ : ∃ l, l = Obol.sA L4 a.toNat b.toNat y.toNat := ⟨_, rfl⟩
  have R' : Hid (Row ((w4.setCell ⟨k, a.toNat, none⟩ (.int .u32 z)).drew) k (u32s L5) 120) := Lib.hid (by rw [q5]; exact (rowSet R.out a.toNat _ hZ).drew)
  have H' : Hid (Obol.W32 16 L5) := Lib.hid (by rw [q5]; exact H.out.set a.toNat _ (Obol.add3_lt _ _ _))
  have B' := Lib.hid (bDrew (bSet (u := .int .u32 z) (o := a.toNat) B.out (Nat.le_refl k)))
  have Q5 := Lib.hid q5
  clear hZ q5 R H B ea eb
  go_region
  go_wp2_with fail
  clear f hz ca la ua cb lb ub
  generalize (w4.setCell ⟨k, a.toNat, none⟩ (.int .u32 z)).drew = w5 at R' B' ⊢
  have R := R'; have H := H'; have B := B'; clear R' H' B'
  try clear z
  -- statement 6
  obtain ⟨vd, ed, ld, ud⟩ := word_at H.out (i := d) hd0 (by omega)
  have cd : w5.cell? ⟨k, d.toNat, none⟩ = some (.int .u32 vd) := R.out.cell d.toNat ((u32s_at H.out hd0 (by omega)).trans (by rw [ed]))
  obtain ⟨va, ea, la, ua⟩ := word_at H.out (i := a) ha0 (by omega)
  have ca : w5.cell? ⟨k, a.toNat, none⟩ = some (.int .u32 va) := R.out.cell a.toNat ((u32s_at H.out ha0 (by omega)).trans (by rw [ea]))
  have hq := xor_eq ed ea (H.out.lt _) (H.out.lt _)
  have hql := Obol.xor_lt (H.out.lt d.toNat) (H.out.lt a.toNat)
  obtain ⟨u, hu⟩ : ∃ u : Int, bits .xor .u32 vd va = u := ⟨_, rfl⟩
  rw [hu] at hq
  have cR := fun w => rot8 u (by omega) (by omega) w
  obtain ⟨z, hz⟩ : ∃ z : Int, ((Obol.rotW 8 u.toNat : Nat) : Int) = z := ⟨_, rfl⟩
  have hZ : z = ((Obol.rotW 8 (L5.getD d.toNat 0 ^^^ L5.getD a.toNat 0) : Nat) : Int) := by rw [← hz, hq, Int.toNat_natCast]
  rw [hz] at cR
  replace cR := Lib.hid cR
  clear hz hq
  have f := R.out.free d.toNat
  obtain ⟨L6, q6⟩ : ∃ l, l = Obol.sX L5 8 d.toNat a.toNat := ⟨_, rfl⟩
  have R' : Hid (Row ((w5.setCell ⟨k, d.toNat, none⟩ (.int .u32 z)).drew) k (u32s L6) 120) := Lib.hid (by rw [q6]; exact (rowSet R.out d.toNat _ hZ).drew)
  have H' : Hid (Obol.W32 16 L6) := Lib.hid (by rw [q6]; exact H.out.set d.toNat _ (Obol.rotW_lt _ _ hql))
  have B' := Lib.hid (bDrew (bSet (u := .int .u32 z) (o := d.toNat) B.out (Nat.le_refl k)))
  have Q6 := Lib.hid q6
  clear hZ q6 R H B ed ea hql
  refine wp_region_still_tail 16 (by kernel_rfl) (by kernel_rfl) ?_
  simp only [List.take_succ_cons, List.take_zero, List.drop_succ_cons, List.drop_zero]
  repeat still_step
  still_call (cR.out _)
  repeat still_step
  refine wpStill_nil ?_
  change wpList _ _ _ _ _ w5.drew
  go_wp2_with fail
  clear f cR hu cd ld ud ca la ua
  generalize (w5.setCell ⟨k, d.toNat, none⟩ (.int .u32 z)).drew = w6 at R' B' ⊢
  have R := R'; have H := H'; have B := B'; clear R' H' B'
  try clear z
  -- statement 7
  obtain ⟨vc, ec, lc, uc⟩ := word_at H.out (i := c) hc0 (by omega)
  have cc : w6.cell? ⟨k, c.toNat, none⟩ = some (.int .u32 vc) := R.out.cell c.toNat ((u32s_at H.out hc0 (by omega)).trans (by rw [ec]))
  obtain ⟨vd, ed, ld, ud⟩ := word_at H.out (i := d) hd0 (by omega)
  have cd : w6.cell? ⟨k, d.toNat, none⟩ = some (.int .u32 vd) := R.out.cell d.toNat ((u32s_at H.out hd0 (by omega)).trans (by rw [ed]))
  obtain ⟨z, hz⟩ : ∃ z : Int, (vc + vd) % 4294967296 = z := ⟨_, rfl⟩
  have hZ : z = ((Obol.add2 (L6.getD c.toNat 0) (L6.getD d.toNat 0) : Nat) : Int) := by rw [← hz]; exact add2_is ec ed
  have f := R.out.free c.toNat
  obtain ⟨L7, q7⟩ : ∃ l, l = Obol.sC L6 c.toNat d.toNat := ⟨_, rfl⟩
  have R' : Hid (Row ((w6.setCell ⟨k, c.toNat, none⟩ (.int .u32 z)).drew) k (u32s L7) 120) := Lib.hid (by rw [q7]; exact (rowSet R.out c.toNat _ hZ).drew)
  have H' : Hid (Obol.W32 16 L7) := Lib.hid (by rw [q7]; exact H.out.set c.toNat _ (Obol.add2_lt _ _))
  have B' := Lib.hid (bDrew (bSet (u := .int .u32 z) (o := c.toNat) B.out (Nat.le_refl k)))
  have Q7 := Lib.hid q7
  clear hZ q7 R H B ec ed
  go_region
  go_wp2_with fail
  clear f hz cc lc uc cd ld ud
  generalize (w6.setCell ⟨k, c.toNat, none⟩ (.int .u32 z)).drew = w7 at R' B' ⊢
  have R := R'; have H := H'; have B := B'; clear R' H' B'
  try clear z
  -- statement 8
  obtain ⟨vb, eb, lb, ub⟩ := word_at H.out (i := b) hb0 (by omega)
  have cb : w7.cell? ⟨k, b.toNat, none⟩ = some (.int .u32 vb) := R.out.cell b.toNat ((u32s_at H.out hb0 (by omega)).trans (by rw [eb]))
  obtain ⟨vc, ec, lc, uc⟩ := word_at H.out (i := c) hc0 (by omega)
  have cc : w7.cell? ⟨k, c.toNat, none⟩ = some (.int .u32 vc) := R.out.cell c.toNat ((u32s_at H.out hc0 (by omega)).trans (by rw [ec]))
  have hq := xor_eq eb ec (H.out.lt _) (H.out.lt _)
  have hql := Obol.xor_lt (H.out.lt b.toNat) (H.out.lt c.toNat)
  obtain ⟨u, hu⟩ : ∃ u : Int, bits .xor .u32 vb vc = u := ⟨_, rfl⟩
  rw [hu] at hq
  have cR := fun w => rot7 u (by omega) (by omega) w
  obtain ⟨z, hz⟩ : ∃ z : Int, ((Obol.rotW 7 u.toNat : Nat) : Int) = z := ⟨_, rfl⟩
  have hZ : z = ((Obol.rotW 7 (L7.getD b.toNat 0 ^^^ L7.getD c.toNat 0) : Nat) : Int) := by rw [← hz, hq, Int.toNat_natCast]
  rw [hz] at cR
  replace cR := Lib.hid cR
  clear hz hq
  have f := R.out.free b.toNat
  obtain ⟨L8, q8⟩ : ∃ l, l = Obol.sX L7 7 b.toNat c.toNat := ⟨_, rfl⟩
  have R' : Hid (Row ((w7.setCell ⟨k, b.toNat, none⟩ (.int .u32 z)).drew) k (u32s L8) 120) := Lib.hid (by rw [q8]; exact (rowSet R.out b.toNat _ hZ).drew)
  have H' : Hid (Obol.W32 16 L8) := Lib.hid (by rw [q8]; exact H.out.set b.toNat _ (Obol.rotW_lt _ _ hql))
  have B' := Lib.hid (bDrew (bSet (u := .int .u32 z) (o := b.toNat) B.out (Nat.le_refl k)))
  have Q8 := Lib.hid q8
  clear hZ q8 R H B eb ec hql
  refine wp_region_still_tail 16 (by kernel_rfl) (by kernel_rfl) ?_
  simp only [List.take_succ_cons, List.take_zero, List.drop_succ_cons, List.drop_zero]
  repeat still_step
  still_call (cR.out _)
  repeat still_step
  refine wpStill_nil ?_
  change wpList _ _ _ _ _ w7.drew
  go_wp2_with fail
  clear f cR hu cb lb ub cc lc uc
  generalize (w7.setCell ⟨k, b.toNat, none⟩ (.int .u32 z)).drew = w8 at R' B' ⊢
  have R := R'; have H := H'; have B := B'; clear R' H' B'
  try clear z
  have e : Obol.mixL L0 a.toNat b.toNat c.toNat d.toNat x.toNat y.toNat = L8 := by
    unfold Obol.mixL
    rw [← Q1.out, ← Q2.out, ← Q3.out, ← Q4.out, ← Q5.out, ← Q6.out, ← Q7.out, ← Q8.out]
  have E := Lib.hid e
  clear e
  go_end0
  exact ⟨rfl, by rw [E.out]; exact R.out, B.out⟩

end Go.Proofs.YtkfimfjjmdjbdaaGreatDoor
/- A region that draws its order, operation by operation. -/
namespace Go.Proofs.YtkfimfjjmdjbdaaGreatDoor
open Go.RowKit

/-! a region that draws, op by op -/
section
variable {P : Program} {ops : List Oper} {Q : Exit → Act → World → Prop} {md : Region.Mode} {S : World → Prop}
theorem takeH (i : Nat) {oi : Oper} {v : Value} {fuel : Nat} {listed : Array Bool} {a : Act} {w : World} (hQ : ∀ c a d v w, Q (.panic c) (a.put d v) w → Q (.panic c) a w) (hs : Region.noSelect ops.toArray = true) (hS : S w)
    (hi : ops[i]? = some oi) (hf : (Region.free md ops.toArray listed i && (Region.ready md ops.toArray listed).contains i) = true)
    (hw : Region.wanted oi (yielded ops.toArray a.tmps) = true) (hv : ∀ w, S w → (execOp a.eval oi).run P w = .ok (.value v) w)
    (h : wpAnyH P md ops.toArray Q S fuel (listed.setIfInBounds i true) (a.put oi.dst v) w) : wpAnyH P md ops.toArray Q S (fuel + 1) listed a w := by
  rw [Bool.and_eq_true] at hf
  exact wpAnyH_take (by rw [List.getElem?_toArray]; exact hi) hs hf.1 hf.2 (fun c a w h => hQ c a _ _ w h) (Or.inl ⟨hw, hv⟩) hS h
theorem skipH (i : Nat) {oi : Oper} {fuel : Nat} {listed : Array Bool} {a : Act} {w : World} (hQ : ∀ c a d v w, Q (.panic c) (a.put d v) w → Q (.panic c) a w) (hs : Region.noSelect ops.toArray = true) (hS : S w)
    (hi : ops[i]? = some oi) (hf : (Region.free md ops.toArray listed i && (Region.ready md ops.toArray listed).contains i) = true)
    (hw : Region.wanted oi (yielded ops.toArray a.tmps) = false)
    (h : wpAnyH P md ops.toArray Q S fuel (listed.setIfInBounds i true) (a.put oi.dst undef) w) : wpAnyH P md ops.toArray Q S (fuel + 1) listed a w := by
  rw [Bool.and_eq_true] at hf
  exact wpAnyH_take (by rw [List.getElem?_toArray]; exact hi) hs hf.1 hf.2 (fun c a w h => hQ c a _ _ w h) (Or.inr ⟨hw, rfl⟩) hS h
theorem stepH (i : Nat) {oi : Oper} {fuel : Nat} {listed : Array Bool} {a : Act} {w : World} (hr : Region.ready md ops.toArray listed = [i]) (hi : ops[i]? = some oi)
    (hw : Region.wanted oi (yielded ops.toArray a.tmps) = true)
    (h : ∀ K' : Act → World → Prop, Shut (∀ a w, S w → (S w → wpAnyH P md ops.toArray Q S fuel (listed.setIfInBounds i true) a w) → K' a w) → Oper.wp P oi a w K' Q) : wpAnyH P md ops.toArray Q S (fuel + 1) listed a w :=
  wpAnyH_ready hr (by simp) (AllReadyH.cons (by rw [List.getElem?_toArray]; exact hi) (fun K hK => by rw [if_pos hw]; exact h K hK) AllReadyH.nil)
theorem tk (i : Nat) {oi : Oper} {v : Value} {fuel : Nat} {listed : Array Bool} {a a' : Act} {w : World} (hS : S w) (h : wpAnyH P md ops.toArray Q S fuel (listed.setIfInBounds i true) a' w)
    (hQ : ∀ c a d v w, Q (.panic c) (a.put d v) w → Q (.panic c) a w := by exact fun _ _ _ _ _ h => h) (hs : Region.noSelect ops.toArray = true := by kernel_rfl)
    (hi : ops[i]? = some oi := by exact rfl) (hf : (Region.free md ops.toArray listed i && (Region.ready md ops.toArray listed).contains i) = true := by kernel_rfl)
    (hw : Region.wanted oi (yielded ops.toArray a.tmps) = true := by rfl) (hv : ∀ w, S w → (execOp a.eval oi).run P w = .ok (.value v) w := by ((intro wz hz; (try dsimp only at hz); go_simp) <;> with_reducible rfl))
    (ha : a.put oi.dst v = a' := by first | (simp only [Act.put, List.setIfInBounds_toArray, List.set_cons_zero, List.set_cons_succ]; exact rfl) | exact rfl) : wpAnyH P md ops.toArray Q S (fuel + 1) listed a w := by
  subst ha
  exact takeH i hQ hs hS hi hf hw hv h
theorem sk (i : Nat) {oi : Oper} {fuel : Nat} {listed : Array Bool} {a a' : Act} {w : World} (hS : S w) (h : wpAnyH P md ops.toArray Q S fuel (listed.setIfInBounds i true) a' w)
    (hQ : ∀ c a d v w, Q (.panic c) (a.put d v) w → Q (.panic c) a w := by exact fun _ _ _ _ _ h => h) (hs : Region.noSelect ops.toArray = true := by kernel_rfl)
    (hi : ops[i]? = some oi := by exact rfl) (hf : (Region.free md ops.toArray listed i && (Region.ready md ops.toArray listed).contains i) = true := by kernel_rfl)
    (hw : Region.wanted oi (yielded ops.toArray a.tmps) = false := by rfl)
    (ha : a.put oi.dst undef = a' := by first | (simp only [Act.put, List.setIfInBounds_toArray, List.set_cons_zero, List.set_cons_succ]; exact rfl) | exact rfl) : wpAnyH P md ops.toArray Q S (fuel + 1) listed a w := by
  subst ha
  exact skipH i hQ hs hS hi hf hw h
end

end Go.Proofs.YtkfimfjjmdjbdaaGreatDoor
