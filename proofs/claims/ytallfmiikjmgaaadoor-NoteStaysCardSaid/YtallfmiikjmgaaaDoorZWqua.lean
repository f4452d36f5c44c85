import Derived.Test.YtallfmiikjmgaaaDoorMC
import Derived.StillTailTactics
set_option linter.unusedVariables false
set_option linter.unusedSimpArgs false
/- Walks: package cipher: the mixing of four words. -/
namespace Obol
/-- Four words of sixteen: eight statements. -/
def quaL (L : List Nat) (a b c d : Nat) : List Nat :=
  sX (sC (sX (sC (sX (sC (sX (sC L a b) 16 d a) c d) 20 b c) a b) 24 d a) c d) 25 b c
end Obol
namespace Go.Proofs.YtallfmiikjmgaaaDoor
open Go.RowKit

theorem rotL16 (x : Int) (h0 : 0 ≤ x) (h1 : x ≤ 4294967295) (w : World) :
    Calls Tryd.prog 112 #[.int .u32 x, .int .i64 16] w fun e w' => e = .returned (.int .u32 ((Obol.rotW 16 x.toNat : Nat) : Int)) ∧ w' = w := by
  have hs : bits .and .u64 16 31 = 16 := by decide +kernel
  have hr := Lib.hid (or_rot 16 h0 h1)
  go_enter Tryd.func112, Tryd.ntmps112
  go_wp2
  go_ret
  refine ⟨?_, rfl⟩
  rw [← hr.out]
  rfl
theorem rotL20 (x : Int) (h0 : 0 ≤ x) (h1 : x ≤ 4294967295) (w : World) :
    Calls Tryd.prog 112 #[.int .u32 x, .int .i64 12] w fun e w' => e = .returned (.int .u32 ((Obol.rotW 20 x.toNat : Nat) : Int)) ∧ w' = w := by
  have hs : bits .and .u64 12 31 = 12 := by decide +kernel
  have hr := Lib.hid (or_rot 20 h0 h1)
  go_enter Tryd.func112, Tryd.ntmps112
  go_wp2
  go_ret
  refine ⟨?_, rfl⟩
  rw [← hr.out]
  rfl
theorem rotL24 (x : Int) (h0 : 0 ≤ x) (h1 : x ≤ 4294967295) (w : World) :
    Calls Tryd.prog 112 #[.int .u32 x, .int .i64 8] w fun e w' => e = .returned (.int .u32 ((Obol.rotW 24 x.toNat : Nat) : Int)) ∧ w' = w := by
  have hs : bits .and .u64 8 31 = 8 := by decide +kernel
  have hr := Lib.hid (or_rot 24 h0 h1)
  go_enter Tryd.func112, Tryd.ntmps112
  go_wp2
  go_ret
  refine ⟨?_, rfl⟩
  rw [← hr.out]
  rfl
theorem rotL25 (x : Int) (h0 : 0 ≤ x) (h1 : x ≤ 4294967295) (w : World) :
    Calls Tryd.prog 112 #[.int .u32 x, .int .i64 7] w fun e w' => e = .returned (.int .u32 ((Obol.rotW 25 x.toNat : Nat) : Int)) ∧ w' = w := by
  have hs : bits .and .u64 7 31 = 7 := by decide +kernel
  have hr := Lib.hid (or_rot 25 h0 h1)
  go_enter Tryd.func112, Tryd.ntmps112
  go_wp2
  go_ret
  refine ⟨?_, rfl⟩
  rw [← hr.out]
  rfl

set_option maxRecDepth 8000 in
set_option maxHeartbeats 2000000 in
theorem qMix (k : Nat) (a b c d : Int) (ha0 : 0 ≤ a) (hb0 : 0 ≤ b) (hc0 : 0 ≤ c) (hd0 : 0 ≤ d) (ha1 : a < 16) (hb1 : b < 16) (hc1 : c < 16) (hd1 : d < 16)
    (L0 : List Nat) (H0 : Obol.W32 16 L0) (w0 : World) (R0 : Row w0 k (u32s L0) 112) :
    Calls Tryd.prog 104 #[.pointer (some ⟨k, 0, none⟩), .int .i64 a, .int .i64 b, .int .i64 c, .int .i64 d] w0 fun e w' =>
      e = .returned (.tuple #[]) ∧ Row w' k (u32s (Obol.quaL L0 a.toNat b.toNat c.toNat d.toNat)) 112 ∧ Below k w0 w' := by
  have H := Lib.hid H0
  have R := Lib.hid R0
  have B : Hid (Below k w0 w0) := Lib.hid (Below.refl _ _)
  clear H0 R0
  go_enter Tryd.func104, Tryd.ntmps104
  go_wp2_with fail
  -- statement 1
  obtain ⟨va, ea, la, ua⟩ := word_at H.out (i := a) ha0 (by omega)
  have ca : w0.cell? ⟨k, a.toNat, none⟩ = some (.int .u32 va) := R.out.cell a.toNat ((u32s_at H.out ha0 (by omega)).trans (by rw [ea]))
  obtain ⟨vb, eb, lb, ub⟩ := word_at H.out (i := b) hb0 (by omega)
  have cb : w0.cell? ⟨k, b.toNat, none⟩ = some (.int .u32 vb) := R.out.cell b.toNat ((u32s_at H.out hb0 (by omega)).trans (by rw [eb]))
  obtain ⟨z, hz⟩ : ∃ z : Int, (va + vb) % 4294967296 = z := ⟨_, rfl⟩
  have hZ : z = ((Obol.add2 (L0.getD a.toNat 0) (L0.getD b.toNat 0) : Nat) : Int) := by rw [← hz]; exact add2_is ea eb
  have f := R.out.free a.toNat
  obtain ⟨L1, q1⟩ : ∃ l, l = Obol.sC L0 a.toNat b.toNat := ⟨_, rfl⟩
  have R' : Hid (Row ((w0.setCell ⟨k, a.toNat, none⟩ (.int .u32 z)).drew) k (u32s L1) 112) := Lib.hid (by rw [q1]; exact (rowSet R.out a.toNat _ hZ).drew)
  have H' : Hid (Obol.W32 16 L1) := Lib.hid (by rw [q1]; exact H.out.set a.toNat _ (Obol.add2_lt _ _))
  have B' := Lib.hid (bDrew (bSet (u := .int .u32 z) (o := a.toNat) B.out (Nat.le_refl k)))
  have Q1 := Lib.hid q1
  clear hZ q1 R H B ea eb
  go_region
  go_wp2_with fail
  clear f hz ca la ua cb lb ub
  generalize (w0.setCell ⟨k, a.toNat, none⟩ (.int .u32 z)).drew = w1 at R' B' ⊢
  have R := R'; have H := H'; have B := B'; clear R' H' B'
  try clear z
  -- statement 2
  obtain ⟨vd, ed, ld, ud⟩ := word_at H.out (i := d) hd0 (by omega)
  have cd : w1.cell? ⟨k, d.toNat, none⟩ = some (.int .u32 vd) := R.out.cell d.toNat ((u32s_at H.out hd0 (by omega)).trans (by rw [ed]))
  obtain ⟨va, ea, la, ua⟩ := word_at H.out (i := a) ha0 (by omega)
  have ca : w1.cell? ⟨k, a.toNat, none⟩ = some (.int .u32 va) := R.out.cell a.toNat ((u32s_at H.out ha0 (by omega)).trans (by rw [ea]))
  have hq := xor_eq ed ea (H.out.lt _) (H.out.lt _)
  have hql := Obol.xor_lt (H.out.lt d.toNat) (H.out.lt a.toNat)
  obtain ⟨u, hu⟩ : ∃ u : Int, bits .xor .u32 vd va = u := ⟨_, rfl⟩
  rw [hu] at hq
  have cR := fun w => rotL16 u (by omega) (by omega) w
  obtain ⟨z, hz⟩ : ∃ z : Int, ((Obol.rotW 16 u.toNat : Nat) : Int) = z := ⟨_, rfl⟩
  have hZ : z = ((Obol.rotW 16 (L1.getD d.toNat 0 ^^^ L1.getD a.toNat 0) : Nat) : Int) := by rw [← hz, hq, Int.toNat_natCast]
  rw [hz] at cR
  replace cR := Lib.hid cR
  clear hz hq
  have f := R.out.free d.toNat
  obtain ⟨L2, q2⟩ : ∃ l, l = Obol.sX L1 16 d.toNat a.toNat := ⟨_, rfl⟩
  have R' : Hid (Row ((w1.setCell ⟨k, d.toNat, none⟩ (.int .u32 z)).drew) k (u32s L2) 112) := Lib.hid (by rw [q2]; exact (rowSet R.out d.toNat _ hZ).drew)
  have H' : Hid (Obol.W32 16 L2) := Lib.hid (by rw [q2]; exact H.out.set d.toNat _ (Obol.rotW_lt _ _ hql))
  have B' := Lib.hid (bDrew (bSet (u := .int .u32 z) (o := d.toNat) B.out (Nat.le_refl k)))
  have Q2 := Lib.hid q2
  clear hZ q2 R H B ed ea hql
  refine wp_region_still_tail 16 (by kernel_rfl) (by kernel_rfl) ?_
  simp only [List.take_succ_cons, List.take_zero, List.drop_succ_cons, List.drop_zero]
  repeat still_step
  still_call (cR.out _)
  repeat still_step
  refine wpStill_nil ?_
  change wpList _ _ _ _ _ w1.drew
  go_wp2_with fail
  clear f cR hu cd ld ud ca la ua
  generalize (w1.setCell ⟨k, d.toNat, none⟩ (.int .u32 z)).drew = w2 at R' B' ⊢
  have R := R'; have H := H'; have B := B'; clear R' H' B'
  try clear z
  -- statement 3
  obtain ⟨vc, ec, lc, uc⟩ := word_at H.out (i := c) hc0 (by omega)
  have cc : w2.cell? ⟨k, c.toNat, none⟩ = some (.int .u32 vc) := R.out.cell c.toNat ((u32s_at H.out hc0 (by omega)).trans (by rw [ec]))
  obtain ⟨vd, ed, ld, ud⟩ := word_at H.out (i := d) hd0 (by omega)
  have cd : w2.cell? ⟨k, d.toNat, none⟩ = some (.int .u32 vd) := R.out.cell d.toNat ((u32s_at H.out hd0 (by omega)).trans (by rw [ed]))
  obtain ⟨z, hz⟩ : ∃ z : Int, (vc + vd) % 4294967296 = z := ⟨_, rfl⟩
  have hZ : z = ((Obol.add2 (L2.getD c.toNat 0) (L2.getD d.toNat 0) : Nat) : Int) := by rw [← hz]; exact add2_is ec ed
  have f := R.out.free c.toNat
  obtain ⟨L3, q3⟩ : ∃ l, l = Obol.sC L2 c.toNat d.toNat := ⟨_, rfl⟩
  have R' : Hid (Row ((w2.setCell ⟨k, c.toNat, none⟩ (.int .u32 z)).drew) k (u32s L3) 112) := Lib.hid (by rw [q3]; exact (rowSet R.out c.toNat _ hZ).drew)
  have H' : Hid (Obol.W32 16 L3) := Lib.hid (by rw [q3]; exact H.out.set c.toNat _ (Obol.add2_lt _ _))
  have B' := Lib.hid (bDrew (bSet (u := .int .u32 z) (o := c.toNat) B.out (Nat.le_refl k)))
  have Q3 := Lib.hid q3
  clear hZ q3 R H B ec ed
  go_region
  go_wp2_with fail
  clear f hz cc lc uc cd ld ud
  generalize (w2.setCell ⟨k, c.toNat, none⟩ (.int .u32 z)).drew = w3 at R' B' ⊢
  have R := R'; have H := H'; have B := B'; clear R' H' B'
  try clear z
  -- statement 4
  obtain ⟨vb, eb, lb, ub⟩ := word_at H.out (i := b) hb0 (by omega)
  have cb : w3.cell? ⟨k, b.toNat, none⟩ = some (.int .u32 vb) := R.out.cell b.toNat ((u32s_at H.out hb0 (by omega)).trans (by rw [eb]))
  obtain ⟨vc, ec, lc, uc⟩ := word_at H.out (i := c) hc0 (by omega)
  have cc : w3.cell? ⟨k, c.toNat, none⟩ = some (.int .u32 vc) := R.out.cell c.toNat ((u32s_at H.out hc0 (by omega)).trans (by rw [ec]))
  have hq := xor_eq eb ec (H.out.lt _) (H.out.lt _)
  have hql := Obol.xor_lt (H.out.lt b.toNat) (H.out.lt c.toNat)
  obtain ⟨u, hu⟩ : ∃ u : Int, bits .xor .u32 vb vc = u := ⟨_, rfl⟩
  rw [hu] at hq
  have cR := fun w => rotL20 u (by omega) (by omega) w
  obtain ⟨z, hz⟩ : ∃ z : Int, ((Obol.rotW 20 u.toNat : Nat) : Int) = z := ⟨_, rfl⟩
  have hZ : z = ((Obol.rotW 20 (L3.getD b.toNat 0 ^^^ L3.getD c.toNat 0) : Nat) : Int) := by rw [← hz, hq, Int.toNat_natCast]
  rw [hz] at cR
  replace cR := Lib.hid cR
  clear hz hq
  have f := R.out.free b.toNat
  obtain ⟨L4, q4⟩ : ∃ l, l = Obol.sX L3 20 b.toNat c.toNat := ⟨_, rfl⟩
  have R' : Hid (Row ((w3.setCell ⟨k, b.toNat, none⟩ (.int .u32 z)).drew) k (u32s L4) 112) := Lib.hid (by rw [q4]; exact (rowSet R.out b.toNat _ hZ).drew)
  have H' : Hid (Obol.W32 16 L4) := Lib.hid (by rw [q4]; exact H.out.set b.toNat _ (Obol.rotW_lt _ _ hql))
  have B' := Lib.hid (bDrew (bSet (u := .int .u32 z) (o := b.toNat) B.out (Nat.le_refl k)))
  have Q4 := Lib.hid q4
  clear hZ q4 R H B eb ec hql
  refine wp_region_still_tail 16 (by kernel_rfl) (by kernel_rfl) ?_
  simp only [List.take_succ_cons, List.take_zero, List.drop_succ_cons, List.drop_zero]
  repeat still_step
  still_call (cR.out _)
  repeat still_step
  refine wpStill_nil ?_
  change wpList _ _ _ _ _ w3.drew
  go_wp2_with fail
  clear f cR hu cb lb ub cc lc uc
  generalize (w3.setCell ⟨k, b.toNat, none⟩ (.int .u32 z)).drew = w4 at R' B' ⊢
  have R := R'; have H := H'; have B := B'; clear R' H' B'
  try clear z
  -- statement 5
  obtain ⟨va, ea, la, ua⟩ := word_at H.out (i := a) ha0 (by omega)
  have ca : w4.cell? ⟨k, a.toNat, none⟩ = some (.int .u32 va) := R.out.cell a.toNat ((u32s_at H.out ha0 (by omega)).trans (by rw [ea]))
  obtain ⟨vb, eb, lb, ub⟩ := word_at H.out (i := b) hb0 (by omega)
  have cb : w4.cell? ⟨k, b.toNat, none⟩ = some (.int .u32 vb) := R.out.cell b.toNat ((u32s_at H.out hb0 (by omega)).trans (by rw [eb]))
  obtain ⟨z, hz⟩ : ∃ z : Int, (va + vb) % 4294967296 = z := ⟨_, rfl⟩
  have hZ : z = ((Obol.add2 (L4.getD a.toNat 0) (L4.getD b.toNat 0) : Nat) : Int) := by rw [← hz]; exact add2_is ea eb
  have f := R.out.free a.toNat
  obtain ⟨L5, q5⟩ : ∃ l, l = Obol.sC L4 a.toNat b.toNat := ⟨_, rfl⟩
  have R' : Hid (Row ((w4.setCell ⟨k, a.toNat, none⟩ (.int .u32 z)).drew) k (u32s L5) 112) := Lib.hid (by rw [q5]; exact (rowSet R.out a.toNat _ hZ).drew)
  have H' : Hid (Obol.W32 16 L5) := Lib.hid (by rw [q5]; exact H.out.set a.toNat _ (Obol.add2_lt _ _))
  have B' := Lib.hid (bDrew (bSet (u := .int .u32 z) (o := a.toNat) B.out (Nat.le_refl k)))
  have Q5 := Lib.hid q5
  clear hZ q5 R H B ea eb
  go_region
  go_wp2_with fail
  clear f hz ca la ua cb lb ub
  generalize (w4.setCell ⟨k, a.toNat, none⟩ (.int .u32 z)).drew = w5 at R' B' ⊢
  have R := R'; have H := H'; have B := B'; clear R' H' B'
  try clear z
  -- statement 6
  obtain ⟨vd, ed, ld, ud⟩ := word_at H.out (i := d) hd0 (by omega)
  have cd : w5.cell? ⟨k, d.toNat, none⟩ = some (.int .u32 vd) := R.out.cell d.toNat ((u32s_at H.out hd0 (by omega)).trans (by rw [ed]))
  obtain ⟨va, ea, la, ua⟩ := word_at H.out (i := a) ha0 (by omega)
  have ca : w5.cell? ⟨k, a.toNat, none⟩ = some (.int .u32 va) := R.out.cell a.toNat ((u32s_at H.out ha0 (by omega)).trans (by rw [ea]))
  have hq := xor_eq ed ea (H.out.lt _) (H.out.lt _)
  have hql := Obol.xor_lt (H.out.lt d.toNat) (H.out.lt a.toNat)
  obtain ⟨u, hu⟩ : ∃ u : Int, bits .xor .u32 vd va = u := ⟨_, rfl⟩
  rw [hu] at hq
  have cR := fun w => rotL24 u (by omega) (by omega) w
  obtain ⟨z, hz⟩ : ∃ z : Int, ((Obol.rotW 24 u.toNat : Nat) : Int) = z := ⟨_, rfl⟩
  have hZ : z = ((Obol.rotW 24 (L5.getD d.toNat 0 ^^^ L5.getD a.toNat 0) : Nat) : Int) := by rw [← hz, hq, Int.toNat_natCast]
  rw [hz] at cR
  replace cR := Lib.hid cR
  clear hz hq
  have f := R.out.free d.toNat
  obtain ⟨L6, q6⟩ : ∃ l, l = Obol.sX L5 24 d.toNat a.toNat := ⟨_, rfl⟩
  have R' : Hid (Row ((w5.setCell ⟨k, d.toNat, none⟩ (.int .u32 z)).drew) k (u32s L6) 112) := Lib.hid (by rw [q6]; exact (rowSet R.out d.toNat _ hZ).drew)
  have H' : Hid (Obol.W32 16 L6) := Lib.hid (by rw [q6]; exact H.out.set d.toNat _ (Obol.rotW_lt _ _ hql))
  have B' := Lib.hid (bDrew (bSet (u := .int .u32 z) (o := d.toNat) B.out (Nat.le_refl k)))
  have Q6 := Lib.hid q6
  clear hZ q6 R H B ed ea hql
  refine wp_region_still_tail 16 (by kernel_rfl) (by kernel_rfl) ?_
  simp only [List.take_succ_cons, List.take_zero, List.drop_succ_cons, List.drop_zero]
  repeat still_step
  still_call (cR.out _)
  repeat still_step
  refine wpStill_nil ?_
  change wpList _ _ _ _ _ w5.drew
  go_wp2_with fail
  clear f cR hu cd ld ud ca la ua
  generalize (w5.setCell ⟨k, d.toNat, none⟩ (.int .u32 z)).drew = w6 at R' B' ⊢
  have R := R'; have H := H'; have B := B'; clear R' H' B'
  try clear z
  -- statement 7
  obtain ⟨vc, ec, lc, uc⟩ := word_at H.out (i := c) hc0 (by omega)
  have cc : w6.cell? ⟨k, c.toNat, none⟩ = some (.int .u32 vc) := R.out.cell c.toNat ((u32s_at H.out hc0 (by omega)).trans (by rw [ec]))
  obtain ⟨vd, ed, ld, ud⟩ := word_at H.out (i := d) hd0 (by omega)
  have cd : w6.cell? ⟨k, d.toNat, none⟩ = some (.int .u32 vd) := R.out.cell d.toNat ((u32s_at H.out hd0 (by omega)).trans (by rw [ed]))
  obtain ⟨z, hz⟩ : ∃ z : Int, (vc + vd) % 4294967296 = z := ⟨_, rfl⟩
  have hZ : z = ((Obol.add2 (L6.getD c.toNat 0) (L6.getD d.toNat 0) : Nat) : Int) := by rw [← hz]; exact add2_is ec ed
  have f := R.out.free c.toNat
  obtain ⟨L7, q7⟩ : ∃ l, l = Obol.sC L6 c.toNat d.toNat := ⟨_, rfl⟩
  have R' : Hid (Row ((w6.setCell ⟨k, c.toNat, none⟩ (.int .u32 z)).drew) k (u32s L7) 112) := Lib.hid (by rw [q7]; exact (rowSet R.out c.toNat _ hZ).drew)
  have H' : Hid (Obol.W32 16 L7) := Lib.hid (by rw [q7]; exact H.out.set c.toNat _ (Obol.add2_lt _ _))
  have B' := Lib.hid (bDrew (bSet (u := .int .u32 z) (o := c.toNat) B.out (Nat.le_refl k)))
  have Q7 := Lib.hid q7
  clear hZ q7 R H B ec ed
  go_region
  go_wp2_with fail
  clear f hz cc lc uc cd ld ud
  generalize (w6.setCell ⟨k, c.toNat, none⟩ (.int .u32 z)).drew = w7 at R' B' ⊢
  have R := R'; have H := H'; have B := B'; clear R' H' B'
  try clear z
  -- statement 8
  obtain ⟨vb, eb, lb, ub⟩ := word_at H.out (i := b) hb0 (by omega)
  have cb : w7.cell? ⟨k, b.toNat, none⟩ = some (.int .u32 vb) := R.out.cell b.toNat ((u32s_at H.out hb0 (by omega)).trans (by rw [eb]))
  obtain ⟨vc, ec, lc, uc⟩ := word_at H.out (i := c) hc0 (by omega)
  have cc : w7.cell? ⟨k, c.toNat, none⟩ = some (.int .u32 vc) := R.out.cell c.toNat ((u32s_at H.out hc0 (by omega)).trans (by rw [ec]))
  have hq := xor_eq eb ec (H.out.lt _) (H.out.lt _)
  have hql := Obol.xor_lt (H.out.lt b.toNat) (H.out.lt c.toNat)
  obtain ⟨u, hu⟩ : ∃ u : Int, bits .xor .u32 vb vc = u := ⟨_, rfl⟩
  rw [hu] at hq
  have cR := fun w => rotL25 u (by omega) (by omega) w
  obtain ⟨z, hz⟩ : ∃ z : Int, ((Obol.rotW 25 u.toNat : Nat) : Int) = z := ⟨_, rfl⟩
  have hZ : z = ((Obol.rotW 25 (L7.getD b.toNat 0 ^^^ L7.getD c.toNat 0) : Nat) : Int) := by rw [← hz, hq, Int.toNat_natCast]
  rw [hz] at cR
  replace cR := Lib.hid cR
  clear hz hq
  have f := R.out.free b.toNat
  obtain ⟨L8, q8⟩ : ∃ l, l = Obol.sX L7 25 b.toNat c.toNat := ⟨_, rfl⟩
  have R' : Hid (Row ((w7.setCell ⟨k, b.toNat, none⟩ (.int .u32 z)).drew) k (u32s L8) 112) := Lib.hid (by rw [q8]; exact (rowSet R.out b.toNat _ hZ).drew)
  have H' : Hid (Obol.W32 16 L8) := Lib.hid (by rw [q8]; exact H.out.set b.toNat _ (Obol.rotW_lt _ _ hql))
  have B' := Lib.hid (bDrew (bSet (u := .int .u32 z) (o := b.toNat) B.out (Nat.le_refl k)))
  have Q8 := Lib.hid q8
  clear hZ q8 R H B eb ec hql
  refine wp_region_still_tail 16 (by kernel_rfl) (by kernel_rfl) ?_
  simp only [List.take_succ_cons, List.take_zero, List.drop_succ_cons, List.drop_zero]
  repeat still_step
  still_call (cR.out _)
  repeat still_step
  refine wpStill_nil ?_
  change wpList _ _ _ _ _ w7.drew
  go_wp2_with fail
  clear f cR hu cb lb ub cc lc uc
  generalize (w7.setCell ⟨k, b.toNat, none⟩ (.int .u32 z)).drew = w8 at R' B' ⊢
  have R := R'; have H := H'; have B := B'; clear R' H' B'
  try clear z
  have e : Obol.quaL L0 a.toNat b.toNat c.toNat d.toNat = L8 := by
    unfold Obol.quaL
    rw [← Q1.out, ← Q2.out, ← Q3.out, ← Q4.out, ← Q5.out, ← Q6.out, ← Q7.out, ← Q8.out]
  have E := Lib.hid e
  clear e
  go_end0
  exact ⟨rfl, by rw [E.out]; exact R.out, B.out⟩

end Go.Proofs.YtallfmiikjmgaaaDoor
