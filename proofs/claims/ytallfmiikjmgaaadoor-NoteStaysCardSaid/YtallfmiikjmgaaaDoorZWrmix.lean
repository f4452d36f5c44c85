import Derived.Test.YtallfmiikjmgaaaDoorZWroll
import Derived.Test.YtallfmiikjmgaaaDoorMC
import Derived.Deep.RegionWith
import Derived.Deep.CutBlock
import Derived.Deep.DeepCutAuto
set_option linter.unusedVariables false
set_option linter.unusedSimpArgs false
/- Walks: the reference of layer 5: the mixing of four words. -/
namespace Go.Proofs.YtallfmiikjmgaaaDoor
open Go.RowKit

abbrev zeros16 : Array Value := #[.int .u32 0, .int .u32 0, .int .u32 0, .int .u32 0, .int .u32 0, .int .u32 0, .int .u32 0, .int .u32 0, .int .u32 0, .int .u32 0, .int .u32 0, .int .u32 0, .int .u32 0, .int .u32 0, .int .u32 0, .int .u32 0]
theorem add3_is' {p q x : Int} {P Q : Nat} (hp : (P : Int) = p) (hq : (Q : Int) = q) (hx : 0 ≤ x) : ((p + q) % 4294967296 + x) % 4294967296 = ((Obol.add3 P Q x.toNat : Nat) : Int) := by
  unfold Obol.add3; omega

set_option maxRecDepth 8000 in
set_option maxHeartbeats 2000000 in
theorem rMix (a b c d : Int) (ha0 : 0 ≤ a) (hb0 : 0 ≤ b) (hc0 : 0 ≤ c) (hd0 : 0 ≤ d) (ha1 : a < 16) (hb1 : b < 16) (hc1 : c < 16) (hd1 : d < 16)
    (x y : Int) (hx : 0 ≤ x) (hy : 0 ≤ y) (L0 : List Nat) (H0 : Obol.W32 16 L0) (W : World) :
    Calls Tryd.prog 96 #[.agg (u32s L0), .int .i64 a, .int .i64 b, .int .i64 c, .int .i64 d, .int .u32 x, .int .u32 y] W fun e w' =>
      e = .returned (.agg (u32s (Obol.mixL L0 a.toNat b.toNat c.toNat d.toNat x.toNat y.toNat))) ∧ Below W.heap.size W w' := by
  have H := Lib.hid H0
  clear H0
  go_enter Tryd.func96, Tryd.ntmps96
  go_wp2_with fail
  have R := Lib.hid ((Row.new W (u32s L0) 112).alloc (.cells #[.int .u32 0, .int .u32 0, .int .u32 0, .int .u32 0, .int .u32 0, .int .u32 0, .int .u32 0, .int .u32 0, .int .u32 0, .int .u32 0, .int .u32 0, .int .u32 0, .int .u32 0, .int .u32 0, .int .u32 0, .int .u32 0] 112))
  have B : Hid (Below W.heap.size W _) := Lib.hid (bAlloc (bAlloc (Below.refl _ W) (.cells (u32s L0) 112)) (.cells #[.int .u32 0, .int .u32 0, .int .u32 0, .int .u32 0, .int .u32 0, .int .u32 0, .int .u32 0, .int .u32 0, .int .u32 0, .int .u32 0, .int .u32 0, .int .u32 0, .int .u32 0, .int .u32 0, .int .u32 0, .int .u32 0] 112))
  have Z : Hid (Row _ (W.heap.size + 1) zeros16 112) := Lib.hid (Row.new1 W (.cells (u32s L0) 112) zeros16 112)
  generalize (W.alloc (.cells (u32s L0) 112)).alloc (.cells #[.int .u32 0, .int .u32 0, .int .u32 0, .int .u32 0, .int .u32 0, .int .u32 0, .int .u32 0, .int .u32 0, .int .u32 0, .int .u32 0, .int .u32 0, .int .u32 0, .int .u32 0, .int .u32 0, .int .u32 0, .int .u32 0] 112) = w0 at R B Z ⊢
  obtain ⟨k, hk⟩ : ∃ k, k = W.heap.size := ⟨_, rfl⟩
  rw [← hk] at R B Z ⊢
  replace hk := Lib.hid hk
  -- statement 1
  obtain ⟨va, ea, la, ua⟩ := word_at H.out (i := a) ha0 (by omega)
  have ca : w0.cell? ⟨k, a.toNat, none⟩ = some (.int .u32 va) := R.out.cell a.toNat ((u32s_at H.out ha0 (by omega)).trans (by rw [ea]))
  obtain ⟨vb, eb, lb, ub⟩ := word_at H.out (i := b) hb0 (by omega)
  have cb : w0.cell? ⟨k, b.toNat, none⟩ = some (.int .u32 vb) := R.out.cell b.toNat ((u32s_at H.out hb0 (by omega)).trans (by rw [eb]))
  obtain ⟨z, hz⟩ : ∃ z : Int, ((va + vb) % 4294967296 + x) % 4294967296 = z := ⟨_, rfl⟩
  have hZ : z = ((Obol.add3 (L0.getD a.toNat 0) (L0.getD b.toNat 0) x.toNat : Nat) : Int) := by rw [← hz]; exact add3_is' ea eb hx
  have f := R.out.free a.toNat
  obtain ⟨L1, q1⟩ : ∃ l, l = Obol.sA L0 a.toNat b.toNat x.toNat := ⟨_, rfl⟩
  have R' : Hid (Row ((w0.setCell ⟨k, a.toNat, none⟩ (.int .u32 z)).drew) k (u32s L1) 112) := Lib.hid (by rw [q1]; exact (rowSet R.out a.toNat _ hZ).drew)
  have H' : Hid (Obol.W32 16 L1) := Lib.hid (by rw [q1]; exact H.out.set a.toNat _ (Obol.add3_lt _ _ _))
  have B' := Lib.hid (bDrew (bSet (u := .int .u32 z) (o := a.toNat) B.out (Nat.le_refl k)))
  have Z' : Hid (Row ((w0.setCell ⟨k, a.toNat, none⟩ (.int .u32 z)).drew) (k + 1) zeros16 112) := Lib.hid ((Z.out.other (by omega)).drew)
  have Q1 := Lib.hid q1
  clear hZ q1 R H B Z ea eb
  go_region
  go_wp2_with fail
  clear f hz ca la ua cb lb ub
  generalize (w0.setCell ⟨k, a.toNat, none⟩ (.int .u32 z)).drew = w1 at R' B' Z' ⊢
  have R := R'; have H := H'; have B := B'; clear R' H' B'; have Z := Z'; clear Z'
  try clear z
  -- statement 2
  obtain ⟨vd, ed, ld, ud⟩ := word_at H.out (i := d) hd0 (by omega)
  have cd : w1.cell? ⟨k, d.toNat, none⟩ = some (.int .u32 vd) := R.out.cell d.toNat ((u32s_at H.out hd0 (by omega)).trans (by rw [ed]))
  obtain ⟨va, ea, la, ua⟩ := word_at H.out (i := a) ha0 (by omega)
  have ca : w1.cell? ⟨k, a.toNat, none⟩ = some (.int .u32 va) := R.out.cell a.toNat ((u32s_at H.out ha0 (by omega)).trans (by rw [ea]))
  have hq := xor_eq ed ea (H.out.lt _) (H.out.lt _)
  have hql := Obol.xor_lt (H.out.lt d.toNat) (H.out.lt a.toNat)
  obtain ⟨u, hu⟩ : ∃ u : Int, bits .xor .u32 vd va = u := ⟨_, rfl⟩
  rw [hu] at hq
  have cR := fun w => roll16 u (by omega) (by omega) w
  obtain ⟨z, hz⟩ : ∃ z : Int, ((Obol.rotW 16 u.toNat : Nat) : Int) = z := ⟨_, rfl⟩
  have hZ : z = ((Obol.rotW 16 (L1.getD d.toNat 0 ^^^ L1.getD a.toNat 0) : Nat) : Int) := by rw [← hz, hq, Int.toNat_natCast]
  rw [hz] at cR
  replace cR := Lib.hid cR
  clear hz hq
  have f := R.out.free d.toNat
  obtain ⟨L2, q2⟩ : ∃ l, l = Obol.sX L1 16 d.toNat a.toNat := ⟨_, rfl⟩
  have R' : Hid (Row ((w1.setCell ⟨k, d.toNat, none⟩ (.int .u32 z)).drew) k (u32s L2) 112) := Lib.hid (by rw [q2]; exact (rowSet R.out d.toNat _ hZ).drew)
  have H' : Hid (Obol.W32 16 L2) := Lib.hid (by rw [q2]; exact H.out.set d.toNat _ (Obol.rotW_lt _ _ hql))
  have B' := Lib.hid (bDrew (bSet (u := .int .u32 z) (o := d.toNat) B.out (Nat.le_refl k)))
  have Z' : Hid (Row ((w1.setCell ⟨k, d.toNat, none⟩ (.int .u32 z)).drew) (k + 1) zeros16 112) := Lib.hid ((Z.out.other (by omega)).drew)
  have Q2 := Lib.hid q2
  have HZ := Lib.hid hZ
  clear hZ q2 H R' B' ed ea hql Z'
  go_cut [] (fun wc => Hid (Row wc k (u32s L2) 112) ∧ Hid (Below k W wc) ∧ Hid (Row wc (k + 1) zeros16 112))
  case first =>
    go_region_with (go_at_call 108; refine (cR.out _).mono ?_; rintro e w' ⟨rfl, n, rfl⟩)
    all_goals (go_wp2_with fail; go_meet)
    all_goals exact ⟨Lib.hid (by rw [Q2.out]; repeat (first | exact R.out | refine rowSet ?_ _ _ HZ.out | apply Row.drew | apply Row.drewN)), Lib.hid (by repeat (first | exact B.out | refine bSet ?_ (Nat.le_refl k) | apply bDrew | apply bDrewN)), Lib.hid (by repeat (first | exact Z.out | refine Row.other ?_ (by omega) | apply Row.drew | apply Row.drewN))⟩
  case' rest =>
    rename World => w2
    obtain ⟨R', B', Z'⟩ := hcut
    clear R B HZ f cR hu cd ld ud ca la ua
  go_wp2_with fail
  have R := R'; have H := H'; have B := B'; have Z := Z'; clear R' H' B' Z'
  -- statement 3
  obtain ⟨vc, ec, lc, uc⟩ := word_at H.out (i := c) hc0 (by omega)
  have cc : w2.cell? ⟨k, c.toNat, none⟩ = some (.int .u32 vc) := R.out.cell c.toNat ((u32s_at H.out hc0 (by omega)).trans (by rw [ec]))
  obtain ⟨vd, ed, ld, ud⟩ := word_at H.out (i := d) hd0 (by omega)
  have cd : w2.cell? ⟨k, d.toNat, none⟩ = some (.int .u32 vd) := R.out.cell d.toNat ((u32s_at H.out hd0 (by omega)).trans (by rw [ed]))
  obtain ⟨z, hz⟩ : ∃ z : Int, (vc + vd) % 4294967296 = z := ⟨_, rfl⟩
  have hZ : z = ((Obol.add2 (L2.getD c.toNat 0) (L2.getD d.toNat 0) : Nat) : Int) := by rw [← hz]; exact add2_is ec ed
  have f := R.out.free c.toNat
  obtain ⟨L3, q3⟩ : ∃ l, l = Obol.sC L2 c.toNat d.toNat := ⟨_, rfl⟩
  have R' : Hid (Row ((w2.setCell ⟨k, c.toNat, none⟩ (.int .u32 z)).drew) k (u32s L3) 112) := Lib.hid (by rw [q3]; exact (rowSet R.out c.toNat _ hZ).drew)
  have H' : Hid (Obol.W32 16 L3) := Lib.hid (by rw [q3]; exact H.out.set c.toNat _ (Obol.add2_lt _ _))
  have B' := Lib.hid (bDrew (bSet (u := .int .u32 z) (o := c.toNat) B.out (Nat.le_refl k)))
  have Z' : Hid (Row ((w2.setCell ⟨k, c.toNat, none⟩ (.int .u32 z)).drew) (k + 1) zeros16 112) := Lib.hid ((Z.out.other (by omega)).drew)
  have Q3 := Lib.hid q3
  clear hZ q3 R H B Z ec ed
  go_region
  go_wp2_with fail
  clear f hz cc lc uc cd ld ud
  generalize (w2.setCell ⟨k, c.toNat, none⟩ (.int .u32 z)).drew = w3 at R' B' Z' ⊢
  have R := R'; have H := H'; have B := B'; clear R' H' B'; have Z := Z'; clear Z'
  try clear z
  -- statement 4
  obtain ⟨vb, eb, lb, ub⟩ := word_at H.out (i := b) hb0 (by omega)
  have cb : w3.cell? ⟨k, b.toNat, none⟩ = some (.int .u32 vb) := R.out.cell b.toNat ((u32s_at H.out hb0 (by omega)).trans (by rw [eb]))
  obtain ⟨vc, ec, lc, uc⟩ := word_at H.out (i := c) hc0 (by omega)
  have cc : w3.cell? ⟨k, c.toNat, none⟩ = some (.int .u32 vc) := R.out.cell c.toNat ((u32s_at H.out hc0 (by omega)).trans (by rw [ec]))
  have hq := xor_eq eb ec (H.out.lt _) (H.out.lt _)
  have hql := Obol.xor_lt (H.out.lt b.toNat) (H.out.lt c.toNat)
  obtain ⟨u, hu⟩ : ∃ u : Int, bits .xor .u32 vb vc = u := ⟨_, rfl⟩
  rw [hu] at hq
  have cR := fun w => roll12 u (by omega) (by omega) w
  obtain ⟨z, hz⟩ : ∃ z : Int, ((Obol.rotW 12 u.toNat : Nat) : Int) = z := ⟨_, rfl⟩
  have hZ : z = ((Obol.rotW 12 (L3.getD b.toNat 0 ^^^ L3.getD c.toNat 0) : Nat) : Int) := by rw [← hz, hq, Int.toNat_natCast]
  rw [hz] at cR
  replace cR := Lib.hid cR
  clear hz hq
  have f := R.out.free b.toNat
  obtain ⟨L4, q4⟩ : ∃ l, l = Obol.sX L3 12 b.toNat c.toNat := ⟨_, rfl⟩
  have R' : Hid (Row ((w3.setCell ⟨k, b.toNat, none⟩ (.int .u32 z)).drew) k (u32s L4) 112) := Lib.hid (by rw [q4]; exact (rowSet R.out b.toNat _ hZ).drew)
  have H' : Hid (Obol.W32 16 L4) := Lib.hid (by rw [q4]; exact H.out.set b.toNat _ (Obol.rotW_lt _ _ hql))
  have B' := Lib.hid (bDrew (bSet (u := .int .u32 z) (o := b.toNat) B.out (Nat.le_refl k)))
  have Z' : Hid (Row ((w3.setCell ⟨k, b.toNat, none⟩ (.int .u32 z)).drew) (k + 1) zeros16 112) := Lib.hid ((Z.out.other (by omega)).drew)
  have Q4 := Lib.hid q4
  have HZ := Lib.hid hZ
  clear hZ q4 H R' B' eb ec hql Z'
  go_cut [] (fun wc => Hid (Row wc k (u32s L4) 112) ∧ Hid (Below k W wc) ∧ Hid (Row wc (k + 1) zeros16 112))
  case first =>
    go_region_with (go_at_call 108; refine (cR.out _).mono ?_; rintro e w' ⟨rfl, n, rfl⟩)
    all_goals (go_wp2_with fail; go_meet)
    all_goals exact ⟨Lib.hid (by rw [Q4.out]; repeat (first | exact R.out | refine rowSet ?_ _ _ HZ.out | apply Row.drew | apply Row.drewN)), Lib.hid (by repeat (first | exact B.out | refine bSet ?_ (Nat.le_refl k) | apply bDrew | apply bDrewN)), Lib.hid (by repeat (first | exact Z.out | refine Row.other ?_ (by omega) | apply Row.drew | apply Row.drewN))⟩
  case' rest =>
    rename World => w4
    obtain ⟨R', B', Z'⟩ := hcut
    clear R B HZ f cR hu cb lb ub cc lc uc
  go_wp2_with fail
  have R := R'; have H := H'; have B := B'; have Z := Z'; clear R' H' B' Z'
  -- statement 5
  obtain ⟨va, ea, la, ua⟩ := word_at H.out (i := a) ha0 (by omega)
  have ca : w4.cell? ⟨k, a.toNat, none⟩ = some (.int .u32 va) := R.out.cell a.toNat ((u32s_at H.out ha0 (by omega)).trans (by rw [ea]))
  obtain ⟨vb, eb, lb, ub⟩ := word_at H.out (i := b) hb0 (by omega)
  have cb : w4.cell? ⟨k, b.toNat, none⟩ = some (.int .u32 vb) := R.out.cell b.toNat ((u32s_at H.out hb0 (by omega)).trans (by rw [eb]))
  obtain ⟨z, hz⟩ : ∃ z : Int, ((va + vb) % 4294967296 + y) % 4294967296 = z := ⟨_, rfl⟩
  have hZ : z = ((Obol.add3 (L4.getD a.toNat 0) (L4.getD b.toNat 0) y.toNat : Nat) : Int) := by rw [← hz]; exact add3_is' ea eb hy
  have f := R.out.free a.toNat
  obtain ⟨L5, q5⟩ : ∃ l, l = Obol.sA L4 a.toNat b.toNat y.toNat := ⟨_, rfl⟩
  have R' : Hid (Row ((w4.setCell ⟨k, a.toNat, none⟩ (.int .u32 z)).drew) k (u32s L5) 112) := Lib.hid (by rw [q5]; exact (rowSet R.out a.toNat _ hZ).drew)
  have H' : Hid (Obol.W32 16 L5) := Lib.hid (by rw [q5]; exact H.out.set a.toNat _ (Obol.add3_lt _ _ _))
  have B' := Lib.hid (bDrew (bSet (u := .int .u32 z) (o := a.toNat) B.out (Nat.le_refl k)))
  have Z' : Hid (Row ((w4.setCell ⟨k, a.toNat, none⟩ (.int .u32 z)).drew) (k + 1) zeros16 112) := Lib.hid ((Z.out.other (by omega)).drew)
  have Q5 := Lib.hid q5
  clear hZ q5 R H B Z ea eb
  go_region
  go_wp2_with fail
  clear f hz ca la ua cb lb ub
  generalize (w4.setCell ⟨k, a.toNat, none⟩ (.int .u32 z)).drew = w5 at R' B' Z' ⊢
  have R := R'; have H := H'; have B := B'; clear R' H' B'; have Z := Z'; clear Z'
  try clear z
  -- statement 6
  obtain ⟨vd, ed, ld, ud⟩ := word_at H.out (i := d) hd0 (by omega)
  have cd : w5.cell? ⟨k, d.toNat, none⟩ = some (.int .u32 vd) := R.out.cell d.toNat ((u32s_at H.out hd0 (by omega)).trans (by rw [ed]))
  obtain ⟨va, ea, la, ua⟩ := word_at H.out (i := a) ha0 (by omega)
  have ca : w5.cell? ⟨k, a.toNat, none⟩ = some (.int .u32 va) := R.out.cell a.toNat ((u32s_at H.out ha0 (by omega)).trans (by rw [ea]))
  have hq := xor_eq ed ea (H.out.lt _) (H.out.lt _)
  have hql := Obol.xor_lt (H.out.lt d.toNat) (H.out.lt a.toNat)
  obtain ⟨u, hu⟩ : ∃ u : Int, bits .xor .u32 vd va = u := ⟨_, rfl⟩
  rw [hu] at hq
  have cR := fun w => roll8 u (by omega) (by omega) w
  obtain ⟨z, hz⟩ : ∃ z : Int, ((Obol.rotW 8 u.toNat : Nat) : Int) = z := ⟨_, rfl⟩
  have hZ : z = ((Obol.rotW 8 (L5.getD d.toNat 0 ^^^ L5.getD a.toNat 0) : Nat) : Int) := by rw [← hz, hq, Int.toNat_natCast]
  rw [hz] at cR
  replace cR := Lib.hid cR
  clear hz hq
  have f := R.out.free d.toNat
  obtain ⟨L6, q6⟩ : ∃ l, l = Obol.sX L5 8 d.toNat a.toNat := ⟨_, rfl⟩
  have R' : Hid (Row ((w5.setCell ⟨k, d.toNat, none⟩ (.int .u32 z)).drew) k (u32s L6) 112) := Lib.hid (by rw [q6]; exact (rowSet R.out d.toNat _ hZ).drew)
  have H' : Hid (Obol.W32 16 L6) := Lib.hid (by rw [q6]; exact H.out.set d.toNat _ (Obol.rotW_lt _ _ hql))
  have B' := Lib.hid (bDrew (bSet (u := .int .u32 z) (o := d.toNat) B.out (Nat.le_refl k)))
  have Z' : Hid (Row ((w5.setCell ⟨k, d.toNat, none⟩ (.int .u32 z)).drew) (k + 1) zeros16 112) := Lib.hid ((Z.out.other (by omega)).drew)
  have Q6 := Lib.hid q6
  have HZ := Lib.hid hZ
  clear hZ q6 H R' B' ed ea hql Z'
  go_cut [] (fun wc => Hid (Row wc k (u32s L6) 112) ∧ Hid (Below k W wc) ∧ Hid (Row wc (k + 1) zeros16 112))
  case first =>
    go_region_with (go_at_call 108; refine (cR.out _).mono ?_; rintro e w' ⟨rfl, n, rfl⟩)
    all_goals (go_wp2_with fail; go_meet)
    all_goals exact ⟨Lib.hid (by rw [Q6.out]; repeat (first | exact R.out | refine rowSet ?_ _ _ HZ.out | apply Row.drew | apply Row.drewN)), Lib.hid (by repeat (first | exact B.out | refine bSet ?_ (Nat.le_refl k) | apply bDrew | apply bDrewN)), Lib.hid (by repeat (first | exact Z.out | refine Row.other ?_ (by omega) | apply Row.drew | apply Row.drewN))⟩
  case' rest =>
    rename World => w6
    obtain ⟨R', B', Z'⟩ := hcut
    clear R B HZ f cR hu cd ld ud ca la ua
  go_wp2_with fail
  have R := R'; have H := H'; have B := B'; have Z := Z'; clear R' H' B' Z'
  -- statement 7
  obtain ⟨vc, ec, lc, uc⟩ := word_at H.out (i := c) hc0 (by omega)
  have cc : w6.cell? ⟨k, c.toNat, none⟩ = some (.int .u32 vc) := R.out.cell c.toNat ((u32s_at H.out hc0 (by omega)).trans (by rw [ec]))
  obtain ⟨vd, ed, ld, ud⟩ := word_at H.out (i := d) hd0 (by omega)
  have cd : w6.cell? ⟨k, d.toNat, none⟩ = some (.int .u32 vd) := R.out.cell d.toNat ((u32s_at H.out hd0 (by omega)).trans (by rw [ed]))
  obtain ⟨z, hz⟩ : ∃ z : Int, (vc + vd) % 4294967296 = z := ⟨_, rfl⟩
  have hZ : z = ((Obol.add2 (L6.getD c.toNat 0) (L6.getD d.toNat 0) : Nat) : Int) := by rw [← hz]; exact add2_is ec ed
  have f := R.out.free c.toNat
  obtain ⟨L7, q7⟩ : ∃ l, l = Obol.sC L6 c.toNat d.toNat := ⟨_, rfl⟩
  have R' : Hid (Row ((w6.setCell ⟨k, c.toNat, none⟩ (.int .u32 z)).drew) k (u32s L7) 112) := Lib.hid (by rw [q7]; exact (rowSet R.out c.toNat _ hZ).drew)
  have H' : Hid (Obol.W32 16 L7) := Lib.hid (by rw [q7]; exact H.out.set c.toNat _ (Obol.add2_lt _ _))
  have B' := Lib.hid (bDrew (bSet (u := .int .u32 z) (o := c.toNat) B.out (Nat.le_refl k)))
  have Z' : Hid (Row ((w6.setCell ⟨k, c.toNat, none⟩ (.int .u32 z)).drew) (k + 1) zeros16 112) := Lib.hid ((Z.out.other (by omega)).drew)
  have Q7 := Lib.hid q7
  clear hZ q7 R H B Z ec ed
  go_region
  go_wp2_with fail
  clear f hz cc lc uc cd ld ud
  generalize (w6.setCell ⟨k, c.toNat, none⟩ (.int .u32 z)).drew = w7 at R' B' Z' ⊢
  have R := R'; have H := H'; have B := B'; clear R' H' B'; have Z := Z'; clear Z'
  try clear z
  -- statement 8
  obtain ⟨vb, eb, lb, ub⟩ := word_at H.out (i := b) hb0 (by omega)
  have cb : w7.cell? ⟨k, b.toNat, none⟩ = some (.int .u32 vb) := R.out.cell b.toNat ((u32s_at H.out hb0 (by omega)).trans (by rw [eb]))
  obtain ⟨vc, ec, lc, uc⟩ := word_at H.out (i := c) hc0 (by omega)
  have cc : w7.cell? ⟨k, c.toNat, none⟩ = some (.int .u32 vc) := R.out.cell c.toNat ((u32s_at H.out hc0 (by omega)).trans (by rw [ec]))
  have hq := xor_eq eb ec (H.out.lt _) (H.out.lt _)
  have hql := Obol.xor_lt (H.out.lt b.toNat) (H.out.lt c.toNat)
  obtain ⟨u, hu⟩ : ∃ u : Int, bits .xor .u32 vb vc = u := ⟨_, rfl⟩
  rw [hu] at hq
  have cR := fun w => roll7 u (by omega) (by omega) w
  obtain ⟨z, hz⟩ : ∃ z : Int, ((Obol.rotW 7 u.toNat : Nat) : Int) = z := ⟨_, rfl⟩
  have hZ : z = ((Obol.rotW 7 (L7.getD b.toNat 0 ^^^ L7.getD c.toNat 0) : Nat) : Int) := by rw [← hz, hq, Int.toNat_natCast]
  rw [hz] at cR
  replace cR := Lib.hid cR
  clear hz hq
  have f := R.out.free b.toNat
  obtain ⟨L8, q8⟩ : ∃ l, l = Obol.sX L7 7 b.toNat c.toNat := ⟨_, rfl⟩
  have R' : Hid (Row ((w7.setCell ⟨k, b.toNat, none⟩ (.int .u32 z)).drew) k (u32s L8) 112) := Lib.hid (by rw [q8]; exact (rowSet R.out b.toNat _ hZ).drew)
  have H' : Hid (Obol.W32 16 L8) := Lib.hid (by rw [q8]; exact H.out.set b.toNat _ (Obol.rotW_lt _ _ hql))
  have B' := Lib.hid (bDrew (bSet (u := .int .u32 z) (o := b.toNat) B.out (Nat.le_refl k)))
  have Z' : Hid (Row ((w7.setCell ⟨k, b.toNat, none⟩ (.int .u32 z)).drew) (k + 1) zeros16 112) := Lib.hid ((Z.out.other (by omega)).drew)
  have Q8 := Lib.hid q8
  have HZ := Lib.hid hZ
  clear hZ q8 H R' B' eb ec hql Z'
  go_cut [] (fun wc => Hid (Row wc k (u32s L8) 112) ∧ Hid (Below k W wc) ∧ Hid (Row wc (k + 1) zeros16 112))
  case first =>
    go_region_with (go_at_call 108; refine (cR.out _).mono ?_; rintro e w' ⟨rfl, n, rfl⟩)
    all_goals (go_wp2_with fail; go_meet)
    all_goals exact ⟨Lib.hid (by rw [Q8.out]; repeat (first | exact R.out | refine rowSet ?_ _ _ HZ.out | apply Row.drew | apply Row.drewN)), Lib.hid (by repeat (first | exact B.out | refine bSet ?_ (Nat.le_refl k) | apply bDrew | apply bDrewN)), Lib.hid (by repeat (first | exact Z.out | refine Row.other ?_ (by omega) | apply Row.drew | apply Row.drewN))⟩
  case' rest =>
    rename World => w8
    obtain ⟨R', B', Z'⟩ := hcut
    clear R B HZ f cR hu cb lb ub cc lc uc
  have R := R'; have H := H'; have B := B'; have Z := Z'; clear R' H' B' Z'
  have e : Obol.mixL L0 a.toNat b.toNat c.toNat d.toNat x.toNat y.toNat = L8 := by
    unfold Obol.mixL
    rw [← Q1.out, ← Q2.out, ← Q3.out, ← Q4.out, ← Q5.out, ← Q6.out, ← Q7.out, ← Q8.out]
  have E := Lib.hid e
  clear e Q1 Q2 Q3 Q4 Q5 Q6 Q7 Q8
  have hn : (u32s L8).size = 16 := by unfold u32s; simp [H.out.len]
  have hu : Tryd.prog.underlying 112 = some (.array 16 91) := by kernel_rfl
  have hi : (Tryd.prog.info? 112).map (·.size) = some 16 := by kernel_rfl
  have h1 : (u32s L8).toList.toArray.all (·.oneCell') = true := all_oneCell_toArray (by unfold u32s; simp; intro v _; rfl)
  have hth : w8.there (k + 1) 0 (u32s L8).toList.toArray.size := by rw [Array.toArray_toList, hn]; exact Z.out.there
  go_wp2_with (first | (refine wpList_load_mid rfl _ _ rfl k 0 rfl (u32s L8).toList _ R.out.range hu rfl (by rw [hi]; simp [hn]) ?_) | (refine wpList_store_mid rfl _ _ _ rfl (k + 1) 0 (u32s L8).toList.toArray rfl rfl hth (by rw [hi]; simp [hn]) h1 ?_))
  have RZ : Row (w8.setCells (k + 1) 0 (u32s L8).toList.toArray.toList) (k + 1) (u32s L8) 112 := by rw [Array.toArray_toList]; exact Z.out.store (u32s L8) hn
  refine bodyPost_ret (v := .agg (u32s L8)) (results_row rfl _ rfl RZ hu rfl (by rw [hi, hn])) rfl ⟨by rw [E.out], ?_⟩
  rw [← hk.out]
  exact bSetMany (Nat.le_succ k) _ _ _ B.out

end Go.Proofs.YtallfmiikjmgaaaDoor
