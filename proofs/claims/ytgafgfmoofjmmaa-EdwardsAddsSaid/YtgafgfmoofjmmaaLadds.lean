import Derived.Test.YtgafgfmoofjmmaaLis
/- The walk of the law EdwardsAdds. -/
namespace Go.Proofs.Ytgafgfmoofjmmaa
open Go.RowKit

/-- The plain law. -/
theorem plainAdds (p q : Nat × Nat) :
    Obol.isN (Obol.sumN (Obol.sureN p) (Obol.sureN q)) = true ∧ Obol.isN (Obol.subR 0 (Obol.sureN p).1, (Obol.sureN p).2) = true ∧
      Obol.sumN (Obol.sureN p) (Obol.subR 0 (Obol.sureN p).1, (Obol.sureN p).2) = (0, 1) := by
  rw [Obol.sure_n, Obol.sure_n, Obol.sum_n]
  have hn : (Obol.subR 0 (Obol.Pnt.of p).n.1, (Obol.Pnt.of p).n.2) = ((Obol.Pnt.of p).neg).n := by
    show (Obol.subR 0 (Obol.Pnt.of p).x.val, (Obol.Pnt.of p).y.val) = ((-(Obol.Pnt.of p).x).val, (Obol.Pnt.of p).y.val)
    have h0 : (0 : Obol.Fr).val = 0 := Obol.val_zero
    have h := Obol.subR_val 0 (Obol.Pnt.of p).x
    rw [h0] at h
    rw [h]
    have : 0 - (Obol.Pnt.of p).x = -(Obol.Pnt.of p).x := by grind
    rw [this]
  rw [hn, Obol.sum_n, Obol.Pnt.add_comm (Obol.Pnt.of p) (Obol.Pnt.neg _), Obol.Pnt.neg_add, Obol.zero_n]
  exact ⟨Obol.pt_isN _, Obol.pt_isN _, rfl⟩

/-! four blocks of two cells -/
theorem held8 {w w1 : World} {b c d f : Nat} {v0 v1 u0 u1 x0 x1 y0 y1 : Value} {t : TypeId} (h : Row w1 b #[v0, v1] t ∧ Row w1 c #[u0, u1] t ∧ Row w1 d #[x0, x1] t ∧ Row w1 f #[y0, y1] t ∧ Below w.heap.size w w1) :
    w1.cell? ⟨b, 0, none⟩ = some v0 ∧ w1.cell? ⟨b, 1, none⟩ = some v1 ∧ w1.cell? ⟨c, 0, none⟩ = some u0 ∧ w1.cell? ⟨c, 1, none⟩ = some u1 ∧ w1.cell? ⟨d, 0, none⟩ = some x0 ∧ w1.cell? ⟨d, 1, none⟩ = some x1 ∧
      w1.cell? ⟨f, 0, none⟩ = some y0 ∧ w1.cell? ⟨f, 1, none⟩ = some y1 ∧
      (Row w1 b #[v0, v1] t ∧ Row w1 c #[u0, u1] t ∧ Row w1 d #[x0, x1] t ∧ Row w1 f #[y0, y1] t ∧ Below w.heap.size w w1) :=
  ⟨h.1.cell 0 rfl, h.1.cell 1 rfl, h.2.1.cell 0 rfl, h.2.1.cell 1 rfl, h.2.2.1.cell 0 rfl, h.2.2.1.cell 1 rfl, h.2.2.2.1.cell 0 rfl, h.2.2.2.1.cell 1 rfl, h⟩
theorem held8_next {w w1 w2 : World} {b c d f : Nat} {v0 v1 u0 u1 x0 x1 y0 y1 : Value} {t : TypeId}
    (h : w1.cell? ⟨b, 0, none⟩ = some v0 ∧ w1.cell? ⟨b, 1, none⟩ = some v1 ∧ w1.cell? ⟨c, 0, none⟩ = some u0 ∧ w1.cell? ⟨c, 1, none⟩ = some u1 ∧ w1.cell? ⟨d, 0, none⟩ = some x0 ∧ w1.cell? ⟨d, 1, none⟩ = some x1 ∧
      w1.cell? ⟨f, 0, none⟩ = some y0 ∧ w1.cell? ⟨f, 1, none⟩ = some y1 ∧
      (Row w1 b #[v0, v1] t ∧ Row w1 c #[u0, u1] t ∧ Row w1 d #[x0, x1] t ∧ Row w1 f #[y0, y1] t ∧ Below w.heap.size w w1)) (hb : Below w1.heap.size w1 w2) :
    w2.cell? ⟨b, 0, none⟩ = some v0 ∧ w2.cell? ⟨b, 1, none⟩ = some v1 ∧ w2.cell? ⟨c, 0, none⟩ = some u0 ∧ w2.cell? ⟨c, 1, none⟩ = some u1 ∧ w2.cell? ⟨d, 0, none⟩ = some x0 ∧ w2.cell? ⟨d, 1, none⟩ = some x1 ∧
      w2.cell? ⟨f, 0, none⟩ = some y0 ∧ w2.cell? ⟨f, 1, none⟩ = some y1 ∧
      (Row w2 b #[v0, v1] t ∧ Row w2 c #[u0, u1] t ∧ Row w2 d #[x0, x1] t ∧ Row w2 f #[y0, y1] t ∧ Below w.heap.size w w2) :=
  held8 (by
    obtain ⟨_, _, _, _, _, _, _, _, hb1, hb2, hb3, hb4, hw⟩ := h
    exact ⟨hb1.below hb hb1.lt, hb2.below hb hb2.lt, hb3.below hb hb3.lt, hb4.below hb hb4.lt, bThen hw hb hw.size⟩)

set_option maxRecDepth 4000 in
set_option maxHeartbeats 2000000 in
theorem walkAdds (X Y X' Y' : Int) (hX : 0 ≤ X) (hY : 0 ≤ Y) (hX' : 0 ≤ X') (hY' : 0 ≤ Y') (w : World) :
    Calls Try.prog 3 #[edV X Y, edV X' Y'] w fun e w' => e = .returned (.bool true) ∧ Below w.heap.size w w' := by
  obtain ⟨p1, p2, p3⟩ := plainAdds (X.toNat, Y.toNat) (X'.toNat, Y'.toNat)
  have c1 := fun w => r7Sure X Y hX hY w
  have c2 := fun w => r7Sure X' Y' hX' hY' w
  have c3 := fun w => eNeg X Y hX hY w
  have c4 := fun w => eAdd X Y X' Y' hX hY hX' hY' w
  obtain ⟨x1, x2, s0, s1, e1, e2, e3⟩ := ints2 (Obol.sureN (X.toNat, Y.toNat))
  obtain ⟨y1, y2, s2, s3, e4, e5, e6⟩ := ints2 (Obol.sureN (X'.toNat, Y'.toNat))
  rw [e1, e2] at c1
  rw [e4, e5] at c2
  rw [e2] at c3
  obtain ⟨n1, n2, s4, s5, e7, e8, e9⟩ := ints2 (Obol.subR 0 (Obol.sureN (X.toNat, Y.toNat)).1, (Obol.sureN (X.toNat, Y.toNat)).2)
  obtain ⟨a1, a2, s6, s7, ea, eb, ec⟩ := ints2 (Obol.sumN (Obol.sureN (X.toNat, Y.toNat)) (Obol.sureN (X'.toNat, Y'.toNat)))
  simp only at e7 e8
  rw [e7] at c3
  rw [ea, eb] at c4
  have hx2 : x2 = n2 := e2.symm.trans e8
  rw [hx2] at c3
  rw [e9, e3] at p3
  rw [e9] at p2
  rw [ec] at p1
  rw [e3, e6] at ec ea eb
  have c5 := fun w => r7Sum x1 x2 y1 y2 s0 s1 s2 s3 w
  rw [ec] at c5
  rw [Int.toNat_of_nonneg s6, Int.toNat_of_nonneg s7] at c5
  have c6 := fun w => r7Is a1 a2 s6 s7 w
  rw [p1] at c6
  have c7 := fun w => r7Is n1 n2 s4 s5 w
  rw [p2] at c7
  have c8 := fun w => r7Sum x1 x2 n1 n2 s0 s1 s4 s5 w
  rw [p3] at c8
  replace c1 := Lib.hid c1
  replace c2 := Lib.hid c2
  replace c3 := Lib.hid c3
  replace c4 := Lib.hid c4
  replace c5 := Lib.hid c5
  replace c6 := Lib.hid c6
  replace c7 := Lib.hid c7
  replace c8 := Lib.hid c8
  clear e1 e2 e3 e4 e5 e6 e7 e8 e9 ea eb ec hx2 p1 p2 p3
  go_enter Try.func3, Try.ntmps3
  go_wp2_with fail
  refine (up7 _).mono ?_
  rintro e w1 ⟨rfl, hb1⟩
  have R0 := ((Row.new w #[.int .u64 X, .int .u64 Y] 24).alloc (.cells #[.int .u64 X', .int .u64 Y'] 24)).below hb1 (by simp; omega)
  have R1 := (Row.new1 w (.cells #[.int .u64 X, .int .u64 Y] 24) #[.int .u64 X', .int .u64 Y'] 24).below hb1 (by simp)
  have hb : Below w.heap.size w w1 := bThen (bAlloc (bAlloc (Below.refl _ _) _) _) hb1 (by simp; omega)
  clear hb1
  have g0 := R0.cell 0 rfl
  have g1 := R0.cell 1 rfl
  go_wp2_with fail
  refine (c1.out _).mono ?_
  rintro e w2 ⟨rfl, hb2⟩
  replace R0 := R0.below hb2 R0.lt
  replace R1 := R1.below hb2 R1.lt
  replace hb := bThen hb hb2 hb.size
  clear hb2 g0 g1
  have g0 := R0.cell 0 rfl
  have g1 := R0.cell 1 rfl
  have hz := R0.lt
  go_wp2_with fail
  refine (c3.out _).mono ?_
  rintro e w3 ⟨rfl, hb3⟩
  have R2 := (Row.new w2 #[.int .u64 x1, .int .u64 x2] 24).below hb3 (by simp)
  replace R0 := (R0.alloc _).below hb3 (R0.alloc _).lt
  replace R1 := (R1.alloc _).below hb3 (R1.alloc _).lt
  replace hb := bThen (bAlloc hb _) hb3 (bAlloc hb _).size
  generalize w2.heap.size = k2 at R2 ⊢
  clear hb3 g0 g1 hz
  have g0 := R0.cell 0 rfl
  have g1 := R0.cell 1 rfl
  have g2 := R1.cell 0 rfl
  have g3 := R1.cell 1 rfl
  have hz := R0.lt
  have hz1 := R1.lt
  go_wp2_with fail
  refine (c4.out _).mono ?_
  rintro e w4 ⟨rfl, hb4⟩
  have R3 := (Row.new w3 #[.int .u64 n1, .int .u64 n2] 24).below hb4 (by simp)
  replace R1 := (R1.alloc _).below hb4 (R1.alloc _).lt
  replace R2 := (R2.alloc _).below hb4 (R2.alloc _).lt
  replace hb := bThen (bAlloc hb _) hb4 (bAlloc hb _).size
  generalize w3.heap.size = k3 at R3 ⊢
  clear hb4 g0 g1 g2 g3 hz hz1 R0
  go_wp2_with fail
  have R4 := Row.new w4 #[.int .u64 a1, .int .u64 a2] 24
  replace R1 := R1.alloc (.cells #[.int .u64 a1, .int .u64 a2] 24)
  replace R2 := R2.alloc (.cells #[.int .u64 a1, .int .u64 a2] 24)
  replace R3 := R3.alloc (.cells #[.int .u64 a1, .int .u64 a2] 24)
  replace hb := bAlloc hb (.cells #[.int .u64 a1, .int .u64 a2] 24)
  generalize w4.heap.size = k4 at *
  generalize w4.alloc (.cells #[.int .u64 a1, .int .u64 a2] 24) = w5 at *
  go_region_held3 (fun w' => w'.cell? ⟨w.heap.size + 1, 0, none⟩ = some (.int .u64 X') ∧ w'.cell? ⟨w.heap.size + 1, 1, none⟩ = some (.int .u64 Y') ∧ w'.cell? ⟨k2, 0, none⟩ = some (.int .u64 x1) ∧ w'.cell? ⟨k2, 1, none⟩ = some (.int .u64 x2) ∧
      w'.cell? ⟨k3, 0, none⟩ = some (.int .u64 n1) ∧ w'.cell? ⟨k3, 1, none⟩ = some (.int .u64 n2) ∧ w'.cell? ⟨k4, 0, none⟩ = some (.int .u64 a1) ∧ w'.cell? ⟨k4, 1, none⟩ = some (.int .u64 a2) ∧
      (Row w' (w.heap.size + 1) #[.int .u64 X', .int .u64 Y'] 24 ∧ Row w' k2 #[.int .u64 x1, .int .u64 x2] 24 ∧ Row w' k3 #[.int .u64 n1, .int .u64 n2] 24 ∧ Row w' k4 #[.int .u64 a1, .int .u64 a2] 24 ∧ Below w.heap.size w w'))
    (first | exact held8 ⟨R1.drew, R2.drew, R3.drew, R4.drew, bDrew hb⟩ | exact held8_next ‹_› ‹_›)
    (first
      | (go_at_call_of 22 (edV y1 y2); refine (c5.out _).mono ?_; rintro e w6 ⟨rfl, hb6⟩)
      | (go_at_call 22; refine (c8.out _).mono ?_; rintro e w6 ⟨rfl, hb6⟩)
      | (go_at_call 19; refine (c2.out _).mono ?_; rintro e w6 ⟨rfl, hb6⟩)
      | (go_at_call_of 23 (Value.agg #[Value.int IntKind.u64 a1, Value.int IntKind.u64 a2]); refine (c6.out _).mono ?_; rintro e w6 ⟨rfl, hb6⟩)
      | (go_at_call_of 23 (Value.agg #[Value.int IntKind.u64 n1, Value.int IntKind.u64 n2]); refine (c7.out _).mono ?_; rintro e w6 ⟨rfl, hb6⟩)
      | (go_at_call 24; refine (zero7 _).mono ?_; rintro e w6 ⟨rfl, hb6⟩))
  all_goals
    go_wp2
    go_ret
    rename_i h
    exact ⟨rfl, h.2.2.2.2.2.2.2.2.2.2.2.2⟩

end Go.Proofs.Ytgafgfmoofjmmaa
