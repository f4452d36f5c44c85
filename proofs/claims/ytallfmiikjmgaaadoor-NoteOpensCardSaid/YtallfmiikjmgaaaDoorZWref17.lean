import Derived.Test.YtallfmiikjmgaaaDoorMJ
set_option linter.unusedVariables false
set_option linter.unusedSimpArgs false
/- Walks: the reference of layer 17: keys, points, marks. -/
namespace Go.Proofs.YtallfmiikjmgaaaDoor
open Go.RowKit

theorem r17KeyY (k : Int) (h1 : 1 ≤ k) (h2 : k < 288230376287764481) (w : World) :
    Calls Tryd.prog 14 #[.int .u64 k] w fun e w' => e = .returned (.bool true) ∧ w' = w := by
  have h3 : ¬ k = 0 := by omega
  go_enter Tryd.func14, Tryd.ntmps14
  go_wp2
  go_ret
  exact ⟨by simp [h3], rfl⟩
theorem r17KeyN (k : Int) (h0 : 0 ≤ k) (h : ¬ (1 ≤ k ∧ k < 288230376287764481)) (w : World) :
    Calls Tryd.prog 14 #[.int .u64 k] w fun e w' => e = .returned (.bool false) ∧ w' = w := by
  by_cases h1 : k = 0
  · subst h1
    clear h
    go_enter Tryd.func14, Tryd.ntmps14
    go_wp2
    all_goals
      go_ret
      exact ⟨by simp, rfl⟩
  · have h2 : ¬ k < 288230376287764481 := by omega
    clear h
    go_enter Tryd.func14, Tryd.ntmps14
    go_wp2
    all_goals
      go_ret
      exact ⟨by simp, rfl⟩
theorem r17Scalar (k : Int) (h1 : 0 ≤ k) (w : World) :
    Calls Tryd.prog 18 #[.int .u64 k] w fun e w' => e = .returned (.int .u64 ((Obol.scN k.toNat : Nat) : Int)) ∧ w' = w := by
  have ht : k.tmod 72057593894066549 = k % 72057593894066549 := Int.tmod_eq_emod_of_nonneg h1
  obtain ⟨q, hq⟩ : ∃ q, k % 72057593894066549 = q := ⟨_, rfl⟩
  have hs : Hid (((Obol.scN k.toNat : Nat) : Int) = if q = 0 then 1 else q) := Lib.hid (by
    unfold Obol.scN
    split <;> split <;> omega)
  by_cases hz : q = 0
  · subst hz
    go_enter Tryd.func18, Tryd.ntmps18
    go_wp2_with fail
    go_ret
    exact ⟨by rw [hs.out]; simp, rfl⟩
  · go_enter Tryd.func18, Tryd.ntmps18
    go_wp2_with fail
    go_ret
    exact ⟨by rw [hs.out, if_neg hz]; rfl, rfl⟩
theorem r17Owner (k : Int) (h0 : 0 ≤ k) (w : World) :
    Calls Tryd.prog 50 #[.int .u64 k] w fun e w' => e = .returned (.int .u64 ((Obol.twoN k.toNat 2 : Nat) : Int)) ∧ ∃ n, w' = w.drewN n := by
  go_enter Tryd.func50, Tryd.ntmps50
  go_wp2_with fail
  refine (r10Two k 2 h0 (by omega) _).mono ?_
  rintro e w1 ⟨rfl, n, rfl⟩
  go_wp2_with fail
  go_ret
  exact ⟨rfl, n, rfl⟩
theorem r17PointZ (w : World) : Calls Tryd.prog 21 #[edV 0 1] w fun e w' => e = .returned (.bool false) ∧ Below w.heap.size w w' := by
  have R := Row.new w #[.int .u64 0, .int .u64 1] 29
  have B := Lib.hid (bAlloc (Below.refl _ w) (.cells #[.int .u64 0, .int .u64 1] 29))
  have c0 := R.cell 0 rfl
  have c1 := R.cell 1 rfl
  clear R
  go_enter Tryd.func21, Tryd.ntmps21
  go_wp2_with fail
  go_ret
  exact ⟨by simp, B.out⟩
theorem r17PointI (x y : Int) (x0 : 0 ≤ x) (y0 : 0 ≤ y) (hne : x ≠ 0 ∨ y ≠ 1) (w : World) : Calls Tryd.prog 21 #[edV x y] w fun e w' => e = .returned (.bool (inN (x.toNat, y.toNat))) ∧ Below w.heap.size w w' := by
  have R := Row.new w #[.int .u64 x, .int .u64 y] 29
  have B := Lib.hid (bAlloc (Below.refl _ w) (.cells #[.int .u64 x, .int .u64 y] 29))
  have c0 := R.cell 0 rfl
  have c1 := R.cell 1 rfl
  have hB : (x == 0 && y == 1) = false := by
    rcases hne with h | h
    · simp [h]
    · simp [h]
  have hI := Lib.hid (fun w => r7In x y x0 y0 w)
  obtain ⟨q, hq⟩ : ∃ q, inN (x.toNat, y.toNat) = q := ⟨_, rfl⟩
  rw [hq] at hI ⊢
  clear R hq
  replace hI := Lib.hid hI.out
  by_cases hx : x = 0
  · have hy : ¬ y = 1 := by rcases hne with h | h; exact (h hx).elim; exact h
    subst hx
    clear hne hB
    cases q
    all_goals
      go_enter Tryd.func21, Tryd.ntmps21
      go_wp2_with fail
      refine (hI.out _).mono ?_
      rintro e w1 ⟨rfl, hb1⟩
      have B2 := Lib.hid (bThen B.out hb1 B.out.size)
      clear hb1
      go_wp2_with fail
      go_ret
      exact ⟨by simp, B2.out⟩
  · clear hne hB
    cases q
    all_goals
      go_enter Tryd.func21, Tryd.ntmps21
      go_wp2_with fail
      refine (hI.out _).mono ?_
      rintro e w1 ⟨rfl, hb1⟩
      have B2 := Lib.hid (bThen B.out hb1 B.out.size)
      clear hb1
      go_wp2_with fail
      go_ret
      exact ⟨by simp, B2.out⟩
theorem r17PointT (x y : Int) (x0 : 0 ≤ x) (y0 : 0 ≤ y) (hI : inN (x.toNat, y.toNat) = true) (hne : (x.toNat, y.toNat) ≠ (0, 1)) (w : World) :
    Calls Tryd.prog 21 #[edV x y] w fun e w' => e = .returned (.bool true) ∧ Below w.heap.size w w' := by
  have h := r17PointI x y x0 y0 (by
    by_cases hx : x = 0
    · exact .inr fun hy => hne (by rw [hx, hy]; rfl)
    · exact .inl hx) w
  rw [hI] at h
  exact h
theorem r17PointF (x y : Int) (x0 : 0 ≤ x) (y0 : 0 ≤ y) (h : ¬ (inN (x.toNat, y.toNat) = true ∧ (x.toNat, y.toNat) ≠ (0, 1))) (w : World) :
    Calls Tryd.prog 21 #[edV x y] w fun e w' => e = .returned (.bool false) ∧ Below w.heap.size w w' := by
  by_cases he : x = 0 ∧ y = 1
  · obtain ⟨rfl, rfl⟩ := he
    exact r17PointZ w
  · have hI : inN (x.toNat, y.toNat) = false := by
      rw [← Bool.not_eq_true]
      exact fun hI => h ⟨hI, fun e => he ⟨by have := congrArg Prod.fst e; simp at this; omega, by have := congrArg Prod.snd e; simp at this; omega⟩⟩
    have hc := r17PointI x y x0 y0 (by
      by_cases hx : x = 0
      · exact .inr fun hy => he ⟨hx, hy⟩
      · exact .inl hx) w
    rw [hI] at hc
    exact hc
theorem r17MayY (a b c : Int) (h : mayI a b c) (w : World) :
    Calls Tryd.prog 20 #[ntV a b c] w fun e w' => e = .returned (.bool true) ∧ Below w.heap.size w w' := by
  obtain ⟨h1, h2, h3⟩ := h
  have R := Row.new w #[.int .u64 a, .int .u64 b, .int .u64 c] 41
  have c0 := R.cell 0 rfl
  have c1 := R.cell 1 rfl
  have c2 := R.cell 2 rfl
  have B := Lib.hid (bAlloc (Below.refl _ w) (.cells #[.int .u64 a, .int .u64 b, .int .u64 c] 41))
  clear R
  go_enter Tryd.func20, Tryd.ntmps20
  go_wp2_with fail
  go_ret
  exact ⟨by simp, B.out⟩
theorem r17MayN (a b c : Int) (h : ¬ mayI a b c) (w : World) :
    Calls Tryd.prog 20 #[ntV a b c] w fun e w' => e = .returned (.bool false) ∧ Below w.heap.size w w' := by
  have R := Row.new w #[.int .u64 a, .int .u64 b, .int .u64 c] 41
  have c0 := R.cell 0 rfl
  have c1 := R.cell 1 rfl
  have c2 := R.cell 2 rfl
  have B := Lib.hid (bAlloc (Below.refl _ w) (.cells #[.int .u64 a, .int .u64 b, .int .u64 c] 41))
  clear R
  by_cases h1 : a < 4294967296
  · by_cases h2 : b < 288230376287764481
    · have h3 : ¬ c < 288230376287764481 := fun h3 => h ⟨h1, h2, h3⟩
      clear h
      go_enter Tryd.func20, Tryd.ntmps20
      go_wp2_with fail
      all_goals
        go_ret
        exact ⟨by simp, B.out⟩
    · clear h
      go_enter Tryd.func20, Tryd.ntmps20
      go_wp2_with fail
      all_goals
        go_ret
        exact ⟨by simp, B.out⟩
  · clear h
    go_enter Tryd.func20, Tryd.ntmps20
    go_wp2_with fail
    all_goals
      go_ret
      exact ⟨by simp, B.out⟩
theorem r17Mark (a b c : Int) (a0 : 0 ≤ a) (b0 : 0 ≤ b) (c0 : 0 ≤ c) (w : World) :
    Calls Tryd.prog 28 #[ntV a b c] w fun e w' => e = .returned (.int .u64 ((Obol.manyN [a.toNat, b.toNat, c.toNat] : Nat) : Int)) ∧ Below w.heap.size w w' := by
  have R := Row.new w #[.int .u64 a, .int .u64 b, .int .u64 c] 41
  have e0 := R.cell 0 rfl
  have e1 := R.cell 1 rfl
  have e2 := R.cell 2 rfl
  have B := Lib.hid (bAlloc (Below.refl _ w) (.cells #[.int .u64 a, .int .u64 b, .int .u64 c] 41))
  have cM := Lib.hid (fun w => r10Many (some ⟨w.heap.size, 0, none⟩) 3 3 [a.toNat, b.toNat, c.toNat] rfl (by omega) (w.alloc (.cells #[.int .u64 a, .int .u64 b, .int .u64 c] 22)) (slU3 a0 b0 c0 (Row.new w #[.int .u64 a, .int .u64 b, .int .u64 c] 22)))
  clear R
  go_enter Tryd.func28, Tryd.ntmps28
  go_upto_region 1 with fail
  generalize w.alloc (.cells #[.int .u64 a, .int .u64 b, .int .u64 c] 41) = w1 at e0 e1 e2 B ⊢
  obtain ⟨z, hz⟩ : ∃ z, w.heap.size = z := ⟨_, rfl⟩
  rw [hz] at e0 e1 e2 ⊢
  replace hz := Lib.hid hz
  go_wp2_with fail
  refine (cM.out _).mono ?_
  rintro e w2 ⟨rfl, hb2⟩
  have B2 := Lib.hid (bThen (bAlloc B.out (.cells #[.int .u64 a, .int .u64 b, .int .u64 c] 22)) hb2 (bAlloc B.out (.cells #[.int .u64 a, .int .u64 b, .int .u64 c] 22)).size)
  clear hb2
  go_wp2_with fail
  go_ret
  exact ⟨rfl, B2.out⟩

end Go.Proofs.YtallfmiikjmgaaaDoor
