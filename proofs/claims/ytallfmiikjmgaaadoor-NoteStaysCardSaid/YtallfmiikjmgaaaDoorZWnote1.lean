import Derived.Test.YtallfmiikjmgaaaDoorMG
import Derived.Test.YtallfmiikjmgaaaDoorMB
import Derived.Deep.CutBlock
import Derived.Deep.DeepCutAuto
set_option linter.unusedVariables false
set_option linter.unusedSimpArgs false
/- Walks: package note: keys, points that may be used, marks, ends, addresses. -/
namespace Obol
/-- A key's scalar. -/
def scN (k : Nat) : Nat := if k % 72057593894066549 = 0 then 1 else k % 72057593894066549
end Obol
namespace Go.Proofs.YtallfmiikjmgaaaDoor
open Go.RowKit

abbrev errN (n : Int) : Value := .iface 35 (.int .i64 n)
theorem nKeyY (k : Int) (h1 : 1 ≤ k) (h2 : k < 288230376287764481) (w : World) :
    Calls Tryd.prog 31 #[.int .u64 k] w fun e w' => e = .returned (.bool true) ∧ w' = w := by
  go_enter Tryd.func31, Tryd.ntmps31
  go_wp2
  go_ret
  exact ⟨by simp, rfl⟩
theorem nKeyN (k : Int) (h : ¬ (1 ≤ k ∧ k < 288230376287764481)) (w : World) :
    Calls Tryd.prog 31 #[.int .u64 k] w fun e w' => e = .returned (.bool false) ∧ w' = w := by
  by_cases h1 : 1 ≤ k
  · have h2 : ¬ k < 288230376287764481 := fun h2 => h ⟨h1, h2⟩
    clear h
    go_enter Tryd.func31, Tryd.ntmps31
    go_wp2
    go_ret
    exact ⟨by simp, rfl⟩
  · clear h
    go_enter Tryd.func31, Tryd.ntmps31
    go_wp2
    all_goals
      go_ret
      exact ⟨by simp, rfl⟩
theorem nScalar (k : Int) (h1 : 0 ≤ k) (w : World) :
    Calls Tryd.prog 35 #[.int .u64 k] w fun e w' => e = .returned (.int .u64 ((Obol.scN k.toNat : Nat) : Int)) ∧ w' = w := by
  have ht : k.tmod 72057593894066549 = k % 72057593894066549 := Int.tmod_eq_emod_of_nonneg h1
  obtain ⟨q, hq⟩ : ∃ q, k % 72057593894066549 = q := ⟨_, rfl⟩
  have hs : Hid (((Obol.scN k.toNat : Nat) : Int) = if q = 0 then 1 else q) := Lib.hid (by
    unfold Obol.scN
    split <;> split <;> omega)
  have q0 : 0 ≤ q := by omega
  by_cases hz : q = 0
  · subst hz
    go_enter Tryd.func35, Tryd.ntmps35
    go_wp2_with fail
    go_ret
    exact ⟨by rw [hs.out]; simp; omega, rfl⟩
  · have q1 : 1 ≤ q := by omega
    have q2 : max q 1 = q := by omega
    go_enter Tryd.func35, Tryd.ntmps35
    go_wp2_with fail
    go_ret
    exact ⟨by rw [hs.out, if_neg hz]; simp [q2], rfl⟩
theorem smul0 (p : Nat × Nat) : Obol.smulN p 0 = (0, 1) := by
  rw [Obol.smulN_eq]; rfl
theorem nMul0 (X Y : Int) (hX : 0 ≤ X) (hY : 0 ≤ Y) (w : World) :
    Calls Tryd.prog 33 #[edV X Y, .int .u64 0] w fun e w' => e = .returned (edV 0 1) ∧ Below w.heap.size w w' := by
  have h := eMulK X Y 0 hX hY (by omega) (by omega) w
  rw [show (0 : Int).toNat = 0 from rfl, smul0] at h
  exact h
section
variable (X Y : Int) (hX : 0 ≤ X) (hY : 0 ≤ Y) (w : World)
include hX hY
set_option maxRecDepth 8000 in
theorem nPointN (hI0 : inN (X.toNat, Y.toNat) = false) : Calls Tryd.prog 39 #[edV X Y] w fun e w' => e = .returned (.bool false) ∧ Below w.heap.size w w' := by
  have hI := Lib.hid hI0
  clear hI0
  go_enter Tryd.func39, Tryd.ntmps39
  go_upto_region 1 with fail
  have H := Lib.hid ((HR.refl w).new #[.int .u64 X, .int .u64 Y] 29)
  generalize w.alloc (.cells #[.int .u64 X, .int .u64 Y] 29) = w1 at H ⊢
  obtain ⟨b0, hb0⟩ : ∃ z, w.heap.size = z := ⟨_, rfl⟩
  have H0 : Hid (HR w w1 [(b0, #[.int .u64 X, .int .u64 Y], 29)]) := Lib.hid (by rw [← hb0]; exact H.out)
  rw [hb0]
  replace hb0 := Lib.hid hb0
  clear H
  refine wp_region_noPanic ?_
  refine wp_region_held_drew (S := fun wq => wq.cell? ⟨b0, 0, none⟩ = some (.int .u64 X) ∧ wq.cell? ⟨b0, 1, none⟩ = some (.int .u64 Y) ∧ HR w wq [(b0, #[.int .u64 X, .int .u64 Y], 29)]) (by kernel_rfl) ?_ (fun hHeld => ?_)
  · have hq0 := HR.drew H0.out
    exact ⟨HR.cell hq0 (b := b0) (cs := #[.int .u64 X, .int .u64 Y]) (t := 29) (by simp) 0 rfl, HR.cell hq0 (b := b0) (cs := #[.int .u64 X, .int .u64 Y]) (t := 29) (by simp) 1 rfl, hq0⟩
  refine takeH 0 (fun _ _ _ _ _ h => h) (by kernel_rfl) hHeld rfl (by kernel_rfl) (by rfl) (v := ?_) ?_ ?_
  rotate_left
  ((intro wz hz; (try dsimp only at hz); go_simp) <;> with_reducible rfl)
  try simp only [Act.put, List.setIfInBounds_toArray, List.set_cons_zero, List.set_cons_succ]
  refine stepH 1 (by kernel_rfl) rfl (by rfl) (fun K hK => ?_)
  go_simp
  refine (eIn X Y hX hY _).mono ?_
  rintro e wc1 ⟨rfl, hbc1⟩
  have hrc1 := HR.next hHeld.2.2 hbc1
  rw [hI.out]
  refine hK.out _ _ ?_ (fun hHeld => ?_)
  · exact ⟨HR.cell hrc1 (b := b0) (cs := #[.int .u64 X, .int .u64 Y]) (t := 29) (by simp) 0 rfl, HR.cell hrc1 (b := b0) (cs := #[.int .u64 X, .int .u64 Y]) (t := 29) (by simp) 1 rfl, hrc1⟩
  clear hK K
  try simp only [Act.put, List.setIfInBounds_toArray, List.set_cons_zero, List.set_cons_succ]
  refine takeH 2 (fun _ _ _ _ _ h => h) (by kernel_rfl) hHeld rfl (by kernel_rfl) (by rfl) (v := ?_) ?_ ?_
  rotate_left
  ((intro wz hz; (try dsimp only at hz); go_simp) <;> with_reducible rfl)
  try simp only [Act.put, List.setIfInBounds_toArray, List.set_cons_zero, List.set_cons_succ]
  refine skipH 3 (fun _ _ _ _ _ h => h) (by kernel_rfl) hHeld rfl (by kernel_rfl) (by rfl) ?_
  try simp only [Act.put, List.setIfInBounds_toArray, List.set_cons_zero, List.set_cons_succ]
  refine skipH 4 (fun _ _ _ _ _ h => h) (by kernel_rfl) hHeld rfl (by kernel_rfl) (by rfl) ?_
  try simp only [Act.put, List.setIfInBounds_toArray, List.set_cons_zero, List.set_cons_succ]
  refine skipH 5 (fun _ _ _ _ _ h => h) (by kernel_rfl) hHeld rfl (by kernel_rfl) (by rfl) ?_
  try simp only [Act.put, List.setIfInBounds_toArray, List.set_cons_zero, List.set_cons_succ]
  refine skipH 6 (fun _ _ _ _ _ h => h) (by kernel_rfl) hHeld rfl (by kernel_rfl) (by rfl) ?_
  try simp only [Act.put, List.setIfInBounds_toArray, List.set_cons_zero, List.set_cons_succ]
  refine takeH 7 (fun _ _ _ _ _ h => h) (by kernel_rfl) hHeld rfl (by kernel_rfl) (by rfl) (v := ?_) ?_ ?_
  rotate_left
  ((intro wz hz; (try dsimp only at hz); go_simp) <;> with_reducible rfl)
  try simp only [Act.put, List.setIfInBounds_toArray, List.set_cons_zero, List.set_cons_succ]
  refine takeH 8 (fun _ _ _ _ _ h => h) (by kernel_rfl) hHeld rfl (by kernel_rfl) (by rfl) (v := ?_) ?_ ?_
  rotate_left
  ((intro wz hz; (try dsimp only at hz); go_simp) <;> with_reducible rfl)
  try simp only [Act.put, List.setIfInBounds_toArray, List.set_cons_zero, List.set_cons_succ]
  refine wpAnyH_done (by kernel_rfl) (NoPanic.normal ?_) _
  have hLast := hHeld.2.2
  go_wp2
  go_ret
  exact ⟨rfl, hLast.2⟩
set_option maxRecDepth 8000 in
theorem nPointX (hI0 : inN (X.toNat, Y.toNat) = true) (hx0 : X ≠ 0) : Calls Tryd.prog 39 #[edV X Y] w fun e w' => e = .returned (.bool true) ∧ Below w.heap.size w w' := by
  have hI := Lib.hid hI0
  have hx : (X == 0) = false := beq_eq_false_iff_ne.2 hx0
  replace hx0 := Lib.hid hx0
  clear hI0
  go_enter Tryd.func39, Tryd.ntmps39
  go_upto_region 1 with fail
  have H := Lib.hid ((HR.refl w).new #[.int .u64 X, .int .u64 Y] 29)
  generalize w.alloc (.cells #[.int .u64 X, .int .u64 Y] 29) = w1 at H ⊢
  obtain ⟨b0, hb0⟩ : ∃ z, w.heap.size = z := ⟨_, rfl⟩
  have H0 : Hid (HR w w1 [(b0, #[.int .u64 X, .int .u64 Y], 29)]) := Lib.hid (by rw [← hb0]; exact H.out)
  rw [hb0]
  replace hb0 := Lib.hid hb0
  clear H
  refine wp_region_noPanic ?_
  refine wp_region_held_drew (S := fun wq => wq.cell? ⟨b0, 0, none⟩ = some (.int .u64 X) ∧ wq.cell? ⟨b0, 1, none⟩ = some (.int .u64 Y) ∧ HR w wq [(b0, #[.int .u64 X, .int .u64 Y], 29)]) (by kernel_rfl) ?_ (fun hHeld => ?_)
  · have hq0 := HR.drew H0.out
    exact ⟨HR.cell hq0 (b := b0) (cs := #[.int .u64 X, .int .u64 Y]) (t := 29) (by simp) 0 rfl, HR.cell hq0 (b := b0) (cs := #[.int .u64 X, .int .u64 Y]) (t := 29) (by simp) 1 rfl, hq0⟩
  refine takeH 0 (fun _ _ _ _ _ h => h) (by kernel_rfl) hHeld rfl (by kernel_rfl) (by rfl) (v := ?_) ?_ ?_
  rotate_left
  ((intro wz hz; (try dsimp only at hz); go_simp) <;> with_reducible rfl)
  try simp only [Act.put, List.setIfInBounds_toArray, List.set_cons_zero, List.set_cons_succ]
  refine stepH 1 (by kernel_rfl) rfl (by rfl) (fun K hK => ?_)
  go_simp
  refine (eIn X Y hX hY _).mono ?_
  rintro e wc1 ⟨rfl, hbc1⟩
  have hrc1 := HR.next hHeld.2.2 hbc1
  rw [hI.out]
  refine hK.out _ _ ?_ (fun hHeld => ?_)
  · exact ⟨HR.cell hrc1 (b := b0) (cs := #[.int .u64 X, .int .u64 Y]) (t := 29) (by simp) 0 rfl, HR.cell hrc1 (b := b0) (cs := #[.int .u64 X, .int .u64 Y]) (t := 29) (by simp) 1 rfl, hrc1⟩
  clear hK K
  try simp only [Act.put, List.setIfInBounds_toArray, List.set_cons_zero, List.set_cons_succ]
  refine takeH 2 (fun _ _ _ _ _ h => h) (by kernel_rfl) hHeld rfl (by kernel_rfl) (by rfl) (v := ?_) ?_ ?_
  rotate_left
  ((intro wz hz; (try dsimp only at hz); go_simp) <;> with_reducible rfl)
  try simp only [Act.put, List.setIfInBounds_toArray, List.set_cons_zero, List.set_cons_succ]
  refine takeH 3 (fun _ _ _ _ _ h => h) (by kernel_rfl) hHeld rfl (by kernel_rfl) (by rfl) (v := ?_) ?_ ?_
  rotate_left
  ((intro wz hz; (try dsimp only at hz); go_simp) <;> with_reducible rfl)
  try simp only [Act.put, List.setIfInBounds_toArray, List.set_cons_zero, List.set_cons_succ]
  refine takeH 4 (fun _ _ _ _ _ h => h) (by kernel_rfl) hHeld rfl (by kernel_rfl) (by rfl) (v := ?_) ?_ ?_
  rotate_left
  ((intro wz hz; (try dsimp only at hz); go_simp) <;> with_reducible rfl)
  try simp only [Act.put, List.setIfInBounds_toArray, List.set_cons_zero, List.set_cons_succ]
  refine stepH 5 (by kernel_rfl) rfl (by rfl) (fun K hK => ?_)
  go_simp
  refine (nMul0 X Y hX hY _).mono ?_
  rintro e wc2 ⟨rfl, hbc2⟩
  have hrc2 := HR.next hHeld.2.2 hbc2
  refine hK.out _ _ ?_ (fun hHeld => ?_)
  · exact ⟨HR.cell hrc2 (b := b0) (cs := #[.int .u64 X, .int .u64 Y]) (t := 29) (by simp) 0 rfl, HR.cell hrc2 (b := b0) (cs := #[.int .u64 X, .int .u64 Y]) (t := 29) (by simp) 1 rfl, hrc2⟩
  clear hK K
  try simp only [Act.put, List.setIfInBounds_toArray, List.set_cons_zero, List.set_cons_succ]
  refine takeH 6 (fun _ _ _ _ _ h => h) (by kernel_rfl) hHeld rfl (by kernel_rfl) (by rfl) (v := ?_) ?_ ?_
  rotate_left
  ((intro wz hz; (try dsimp only at hz); go_simp) <;> with_reducible rfl)
  try simp only [Act.put, List.setIfInBounds_toArray, List.set_cons_zero, List.set_cons_succ]
  refine takeH 7 (fun _ _ _ _ _ h => h) (by kernel_rfl) hHeld rfl (by kernel_rfl) (by rfl) (v := ?_) ?_ ?_
  rotate_left
  ((intro wz hz; (try dsimp only at hz); go_simp) <;> with_reducible rfl)
  try simp only [Act.put, List.setIfInBounds_toArray, List.set_cons_zero, List.set_cons_succ]
  refine takeH 8 (fun _ _ _ _ _ h => h) (by kernel_rfl) hHeld rfl (by kernel_rfl) (by rfl) (v := ?_) ?_ ?_
  rotate_left
  ((intro wz hz; (try dsimp only at hz); go_simp) <;> with_reducible rfl)
  try simp only [Act.put, List.setIfInBounds_toArray, List.set_cons_zero, List.set_cons_succ]
  refine wpAnyH_done (by kernel_rfl) (NoPanic.normal ?_) _
  have hLast := hHeld.2.2
  go_wp2
  go_ret
  exact ⟨rfl, hLast.2⟩
set_option maxRecDepth 8000 in
theorem nPointY (hI0 : inN (X.toNat, Y.toNat) = true) (hy0 : Y ≠ 1) : Calls Tryd.prog 39 #[edV X Y] w fun e w' => e = .returned (.bool true) ∧ Below w.heap.size w w' := by
  have hI := Lib.hid hI0
  have hy : (Y == 1) = false := beq_eq_false_iff_ne.2 hy0
  replace hy0 := Lib.hid hy0
  clear hI0
  go_enter Tryd.func39, Tryd.ntmps39
  go_upto_region 1 with fail
  have H := Lib.hid ((HR.refl w).new #[.int .u64 X, .int .u64 Y] 29)
  generalize w.alloc (.cells #[.int .u64 X, .int .u64 Y] 29) = w1 at H ⊢
  obtain ⟨b0, hb0⟩ : ∃ z, w.heap.size = z := ⟨_, rfl⟩
  have H0 : Hid (HR w w1 [(b0, #[.int .u64 X, .int .u64 Y], 29)]) := Lib.hid (by rw [← hb0]; exact H.out)
  rw [hb0]
  replace hb0 := Lib.hid hb0
  clear H
  refine wp_region_noPanic ?_
  refine wp_region_held_drew (S := fun wq => wq.cell? ⟨b0, 0, none⟩ = some (.int .u64 X) ∧ wq.cell? ⟨b0, 1, none⟩ = some (.int .u64 Y) ∧ HR w wq [(b0, #[.int .u64 X, .int .u64 Y], 29)]) (by kernel_rfl) ?_ (fun hHeld => ?_)
  · have hq0 := HR.drew H0.out
    exact ⟨HR.cell hq0 (b := b0) (cs := #[.int .u64 X, .int .u64 Y]) (t := 29) (by simp) 0 rfl, HR.cell hq0 (b := b0) (cs := #[.int .u64 X, .int .u64 Y]) (t := 29) (by simp) 1 rfl, hq0⟩
  refine takeH 0 (fun _ _ _ _ _ h => h) (by kernel_rfl) hHeld rfl (by kernel_rfl) (by rfl) (v := ?_) ?_ ?_
  rotate_left
  ((intro wz hz; (try dsimp only at hz); go_simp) <;> with_reducible rfl)
  try simp only [Act.put, List.setIfInBounds_toArray, List.set_cons_zero, List.set_cons_succ]
  refine stepH 1 (by kernel_rfl) rfl (by rfl) (fun K hK => ?_)
  go_simp
  refine (eIn X Y hX hY _).mono ?_
  rintro e wc1 ⟨rfl, hbc1⟩
  have hrc1 := HR.next hHeld.2.2 hbc1
  rw [hI.out]
  refine hK.out _ _ ?_ (fun hHeld => ?_)
  · exact ⟨HR.cell hrc1 (b := b0) (cs := #[.int .u64 X, .int .u64 Y]) (t := 29) (by simp) 0 rfl, HR.cell hrc1 (b := b0) (cs := #[.int .u64 X, .int .u64 Y]) (t := 29) (by simp) 1 rfl, hrc1⟩
  clear hK K
  try simp only [Act.put, List.setIfInBounds_toArray, List.set_cons_zero, List.set_cons_succ]
  refine takeH 2 (fun _ _ _ _ _ h => h) (by kernel_rfl) hHeld rfl (by kernel_rfl) (by rfl) (v := ?_) ?_ ?_
  rotate_left
  ((intro wz hz; (try dsimp only at hz); go_simp) <;> with_reducible rfl)
  try simp only [Act.put, List.setIfInBounds_toArray, List.set_cons_zero, List.set_cons_succ]
  refine takeH 3 (fun _ _ _ _ _ h => h) (by kernel_rfl) hHeld rfl (by kernel_rfl) (by rfl) (v := ?_) ?_ ?_
  rotate_left
  ((intro wz hz; (try dsimp only at hz); go_simp) <;> with_reducible rfl)
  try simp only [Act.put, List.setIfInBounds_toArray, List.set_cons_zero, List.set_cons_succ]
  refine takeH 4 (fun _ _ _ _ _ h => h) (by kernel_rfl) hHeld rfl (by kernel_rfl) (by rfl) (v := ?_) ?_ ?_
  rotate_left
  ((intro wz hz; (try dsimp only at hz); go_simp) <;> with_reducible rfl)
  try simp only [Act.put, List.setIfInBounds_toArray, List.set_cons_zero, List.set_cons_succ]
  refine stepH 5 (by kernel_rfl) rfl (by rfl) (fun K hK => ?_)
  go_simp
  refine (nMul0 X Y hX hY _).mono ?_
  rintro e wc2 ⟨rfl, hbc2⟩
  have hrc2 := HR.next hHeld.2.2 hbc2
  refine hK.out _ _ ?_ (fun hHeld => ?_)
  · exact ⟨HR.cell hrc2 (b := b0) (cs := #[.int .u64 X, .int .u64 Y]) (t := 29) (by simp) 0 rfl, HR.cell hrc2 (b := b0) (cs := #[.int .u64 X, .int .u64 Y]) (t := 29) (by simp) 1 rfl, hrc2⟩
  clear hK K
  try simp only [Act.put, List.setIfInBounds_toArray, List.set_cons_zero, List.set_cons_succ]
  refine takeH 6 (fun _ _ _ _ _ h => h) (by kernel_rfl) hHeld rfl (by kernel_rfl) (by rfl) (v := ?_) ?_ ?_
  rotate_left
  ((intro wz hz; (try dsimp only at hz); go_simp) <;> with_reducible rfl)
  try simp only [Act.put, List.setIfInBounds_toArray, List.set_cons_zero, List.set_cons_succ]
  refine takeH 7 (fun _ _ _ _ _ h => h) (by kernel_rfl) hHeld rfl (by kernel_rfl) (by rfl) (v := ?_) ?_ ?_
  rotate_left
  ((intro wz hz; (try dsimp only at hz); go_simp) <;> with_reducible rfl)
  try simp only [Act.put, List.setIfInBounds_toArray, List.set_cons_zero, List.set_cons_succ]
  refine takeH 8 (fun _ _ _ _ _ h => h) (by kernel_rfl) hHeld rfl (by kernel_rfl) (by rfl) (v := ?_) ?_ ?_
  rotate_left
  ((intro wz hz; (try dsimp only at hz); go_simp) <;> with_reducible rfl)
  try simp only [Act.put, List.setIfInBounds_toArray, List.set_cons_zero, List.set_cons_succ]
  refine wpAnyH_done (by kernel_rfl) (NoPanic.normal ?_) _
  have hLast := hHeld.2.2
  go_wp2
  go_ret
  exact ⟨rfl, hLast.2⟩
end
set_option maxRecDepth 8000 in
theorem nPointZ0 (hI0 : inN ((0 : Int).toNat, (1 : Int).toNat) = true) (w : World) : Calls Tryd.prog 39 #[edV 0 1] w fun e w' => e = .returned (.bool false) ∧ Below w.heap.size w w' := by
  have hI := Lib.hid hI0
  clear hI0
  go_enter Tryd.func39, Tryd.ntmps39
  go_upto_region 1 with fail
  have H := Lib.hid ((HR.refl w).new #[.int .u64 0, .int .u64 1] 29)
  generalize w.alloc (.cells #[.int .u64 0, .int .u64 1] 29) = w1 at H ⊢
  obtain ⟨b0, hb0⟩ : ∃ z, w.heap.size = z := ⟨_, rfl⟩
  have H0 : Hid (HR w w1 [(b0, #[.int .u64 0, .int .u64 1], 29)]) := Lib.hid (by rw [← hb0]; exact H.out)
  rw [hb0]
  replace hb0 := Lib.hid hb0
  clear H
  refine wp_region_noPanic ?_
  refine wp_region_held_drew (S := fun wq => wq.cell? ⟨b0, 0, none⟩ = some (.int .u64 0) ∧ wq.cell? ⟨b0, 1, none⟩ = some (.int .u64 1) ∧ HR w wq [(b0, #[.int .u64 0, .int .u64 1], 29)]) (by kernel_rfl) ?_ (fun hHeld => ?_)
  · have hq0 := HR.drew H0.out
    exact ⟨HR.cell hq0 (b := b0) (cs := #[.int .u64 0, .int .u64 1]) (t := 29) (by simp) 0 rfl, HR.cell hq0 (b := b0) (cs := #[.int .u64 0, .int .u64 1]) (t := 29) (by simp) 1 rfl, hq0⟩
  refine takeH 0 (fun _ _ _ _ _ h => h) (by kernel_rfl) hHeld rfl (by kernel_rfl) (by rfl) (v := ?_) ?_ ?_
  rotate_left
  ((intro wz hz; (try dsimp only at hz); go_simp) <;> with_reducible rfl)
  try simp only [Act.put, List.setIfInBounds_toArray, List.set_cons_zero, List.set_cons_succ]
  refine stepH 1 (by kernel_rfl) rfl (by rfl) (fun K hK => ?_)
  go_simp
  refine (eIn 0 1 (by omega) (by omega) _).mono ?_
  rintro e wc1 ⟨rfl, hbc1⟩
  have hrc1 := HR.next hHeld.2.2 hbc1
  rw [hI.out]
  refine hK.out _ _ ?_ (fun hHeld => ?_)
  · exact ⟨HR.cell hrc1 (b := b0) (cs := #[.int .u64 0, .int .u64 1]) (t := 29) (by simp) 0 rfl, HR.cell hrc1 (b := b0) (cs := #[.int .u64 0, .int .u64 1]) (t := 29) (by simp) 1 rfl, hrc1⟩
  clear hK K
  try simp only [Act.put, List.setIfInBounds_toArray, List.set_cons_zero, List.set_cons_succ]
  refine takeH 2 (fun _ _ _ _ _ h => h) (by kernel_rfl) hHeld rfl (by kernel_rfl) (by rfl) (v := ?_) ?_ ?_
  rotate_left
  ((intro wz hz; (try dsimp only at hz); go_simp) <;> with_reducible rfl)
  try simp only [Act.put, List.setIfInBounds_toArray, List.set_cons_zero, List.set_cons_succ]
  refine takeH 3 (fun _ _ _ _ _ h => h) (by kernel_rfl) hHeld rfl (by kernel_rfl) (by rfl) (v := ?_) ?_ ?_
  rotate_left
  ((intro wz hz; (try dsimp only at hz); go_simp) <;> with_reducible rfl)
  try simp only [Act.put, List.setIfInBounds_toArray, List.set_cons_zero, List.set_cons_succ]
  refine takeH 4 (fun _ _ _ _ _ h => h) (by kernel_rfl) hHeld rfl (by kernel_rfl) (by rfl) (v := ?_) ?_ ?_
  rotate_left
  ((intro wz hz; (try dsimp only at hz); go_simp) <;> with_reducible rfl)
  try simp only [Act.put, List.setIfInBounds_toArray, List.set_cons_zero, List.set_cons_succ]
  refine stepH 5 (by kernel_rfl) rfl (by rfl) (fun K hK => ?_)
  go_simp
  refine (nMul0 0 1 (by omega) (by omega) _).mono ?_
  rintro e wc2 ⟨rfl, hbc2⟩
  have hrc2 := HR.next hHeld.2.2 hbc2
  refine hK.out _ _ ?_ (fun hHeld => ?_)
  · exact ⟨HR.cell hrc2 (b := b0) (cs := #[.int .u64 0, .int .u64 1]) (t := 29) (by simp) 0 rfl, HR.cell hrc2 (b := b0) (cs := #[.int .u64 0, .int .u64 1]) (t := 29) (by simp) 1 rfl, hrc2⟩
  clear hK K
  try simp only [Act.put, List.setIfInBounds_toArray, List.set_cons_zero, List.set_cons_succ]
  refine takeH 6 (fun _ _ _ _ _ h => h) (by kernel_rfl) hHeld rfl (by kernel_rfl) (by rfl) (v := ?_) ?_ ?_
  rotate_left
  ((intro wz hz; (try dsimp only at hz); go_simp) <;> with_reducible rfl)
  try simp only [Act.put, List.setIfInBounds_toArray, List.set_cons_zero, List.set_cons_succ]
  refine takeH 7 (fun _ _ _ _ _ h => h) (by kernel_rfl) hHeld rfl (by kernel_rfl) (by rfl) (v := ?_) ?_ ?_
  rotate_left
  ((intro wz hz; (try dsimp only at hz); go_simp) <;> with_reducible rfl)
  try simp only [Act.put, List.setIfInBounds_toArray, List.set_cons_zero, List.set_cons_succ]
  refine takeH 8 (fun _ _ _ _ _ h => h) (by kernel_rfl) hHeld rfl (by kernel_rfl) (by rfl) (v := ?_) ?_ ?_
  rotate_left
  ((intro wz hz; (try dsimp only at hz); go_simp) <;> with_reducible rfl)
  try simp only [Act.put, List.setIfInBounds_toArray, List.set_cons_zero, List.set_cons_succ]
  refine wpAnyH_done (by kernel_rfl) (NoPanic.normal ?_) _
  have hLast := hHeld.2.2
  go_wp2
  go_ret
  exact ⟨rfl, hLast.2⟩

theorem nPointZ (w : World) : Calls Tryd.prog 39 #[edV 0 1] w fun e w' => e = .returned (.bool false) ∧ Below w.heap.size w w' := by
  by_cases h : inN ((0 : Int).toNat, (1 : Int).toNat) = true
  · exact nPointZ0 h w
  · exact nPointN 0 1 (by omega) (by omega) w (Bool.eq_false_iff.2 h)
set_option maxRecDepth 4000 in
theorem nHideY (k : Int) (h1 : 1 ≤ k) (h2 : k < 288230376287764481) (w : World) :
    Calls Tryd.prog 12 #[.int .u64 k] w fun e w' => e = .returned (.tuple #[.int .u64 ((Obol.twoN k.toNat 1 : Nat) : Int), .nilIface]) ∧ Below w.heap.size w w' := by
  go_enter Tryd.func12, Tryd.ntmps12
  go_wp2_with fail
  refine (nKeyY k h1 h2 _).mono ?_
  rintro e w1 ⟨rfl, rfl⟩
  go_wp2_with fail
  refine (cTwo k 1 (by omega) (by omega) _).mono ?_
  rintro e w2 ⟨rfl, n, rfl⟩
  go_wp2_with fail
  go_ret2
  exact ⟨rfl, bDrewN (Below.refl _ _) _⟩
theorem nHideN (k : Int) (h : ¬ (1 ≤ k ∧ k < 288230376287764481)) (w : World) :
    Calls Tryd.prog 12 #[.int .u64 k] w fun e w' => e = .returned (.tuple #[.int .u64 0, errN 1]) ∧ w' = w := by
  have cK := Lib.hid (fun w => nKeyN k h w)
  clear h
  go_enter Tryd.func12, Tryd.ntmps12
  go_wp2_with fail
  refine (cK.out _).mono ?_
  rintro e w1 ⟨rfl, rfl⟩
  go_wp2_with fail
  go_ret2
  exact ⟨rfl, rfl⟩
abbrev ntV (a b c : Int) : Value := .agg #[.int .u64 a, .int .u64 b, .int .u64 c]
/-- May a note be? -/
def mayI (a b c : Int) : Prop := a < 4294967296 ∧ b < 288230376287764481 ∧ c < 288230376287764481
theorem nCheckY (a b c : Int) (h : mayI a b c) (w : World) :
    Calls Tryd.prog 26 #[ntV a b c] w fun e w' => e = .returned .nilIface ∧ Below w.heap.size w w' := by
  obtain ⟨h1, h2, h3⟩ := h
  have R := Row.new w #[.int .u64 a, .int .u64 b, .int .u64 c] 41
  have c0 := R.cell 0 rfl
  have c1 := R.cell 1 rfl
  have c2 := R.cell 2 rfl
  have B := Lib.hid (bAlloc (Below.refl _ w) (.cells #[.int .u64 a, .int .u64 b, .int .u64 c] 41))
  have g1 : ¬ 4294967296 ≤ a := by omega
  have g2 : ¬ 288230376287764481 ≤ b := by omega
  have g3 : ¬ 288230376287764481 ≤ c := by omega
  clear R
  go_enter Tryd.func26, Tryd.ntmps26
  go_wp2_with fail
  go_ret
  exact ⟨rfl, B.out⟩
theorem nCheckN (a b c : Int) (h : ¬ mayI a b c) (w : World) :
    Calls Tryd.prog 26 #[ntV a b c] w fun e w' => e = .returned (errN 1) ∧ Below w.heap.size w w' := by
  have R := Row.new w #[.int .u64 a, .int .u64 b, .int .u64 c] 41
  have c0 := R.cell 0 rfl
  have c1 := R.cell 1 rfl
  have c2 := R.cell 2 rfl
  have B := Lib.hid (bAlloc (Below.refl _ w) (.cells #[.int .u64 a, .int .u64 b, .int .u64 c] 41))
  unfold mayI at h
  clear R
  by_cases g1 : 4294967296 ≤ a
  · clear h
    go_enter Tryd.func26, Tryd.ntmps26
    go_wp2_with fail
    go_ret
    exact ⟨rfl, B.out⟩
  · by_cases g2 : 288230376287764481 ≤ b
    · clear h
      go_enter Tryd.func26, Tryd.ntmps26
      go_wp2_with fail
      go_ret
      exact ⟨rfl, B.out⟩
    · have g3 : 288230376287764481 ≤ c := by omega
      clear h
      go_enter Tryd.func26, Tryd.ntmps26
      go_wp2_with fail
      go_ret
      exact ⟨rfl, B.out⟩
/-- Three numbers in a block, as an argument. -/
theorem slU3 {w : World} {b : Nat} {x y z : Int} {t : TypeId} (x0 : 0 ≤ x) (y0 : 0 ≤ y) (z0 : 0 ≤ z) (R : Row w b #[.int .u64 x, .int .u64 y, .int .u64 z] t) : SlU w.heap.size w (some ⟨b, 0, none⟩) 3 [x.toNat, y.toNat, z.toNat] :=
  ⟨Nat.le_refl _, by decide, (fun h => by cases h), fun _ => ⟨b, 0, rfl, R.lt, fun i hi => by
    rw [Nat.zero_add]
    have hi : i < 3 := hi
    match i, hi with
    | 0, _ => rw [R.cell 0 rfl]; show some (Value.int .u64 x) = some (.int .u64 ((x.toNat : Nat) : Int)); rw [Int.toNat_of_nonneg x0]
    | 1, _ => rw [R.cell 1 rfl]; show some (Value.int .u64 y) = some (.int .u64 ((y.toNat : Nat) : Int)); rw [Int.toNat_of_nonneg y0]
    | 2, _ => rw [R.cell 2 rfl]; show some (Value.int .u64 z) = some (.int .u64 ((z.toNat : Nat) : Int)); rw [Int.toNat_of_nonneg z0]⟩⟩
theorem nEndY (a b p : Int) (a0 : 0 ≤ a) (b0 : 0 ≤ b) (h1 : a < 288230376287764481) (h2 : b < 288230376287764481) (h3 : 0 ≤ p) (h4 : p ≤ 9223372036854775807) (w : World) :
    Calls Tryd.prog 29 #[.int .u64 a, .int .u64 b, .int .i64 p] w fun e w' => e = .returned (.tuple #[.int .u64 ((Obol.manyN [a.toNat, b.toNat, p.toNat] : Nat) : Int), .nilIface]) ∧ Below w.heap.size w w' := by
  have R := Row.new w #[.int .u64 a, .int .u64 b, .int .u64 p] 22
  have B := Lib.hid (bAlloc (Below.refl _ w) (.cells #[.int .u64 a, .int .u64 b, .int .u64 p] 22))
  have hp : IntKind.u64.wrap p = p := by rw [IntKind.wrap_u64]; omega
  have cM := Lib.hid (cMany (some ⟨w.heap.size, 0, none⟩) 3 3 [a.toNat, b.toNat, p.toNat] rfl (by omega) _ (slU3 a0 b0 h3 R))
  have g1 : ¬ 288230376287764481 ≤ a := by omega
  have g2 : ¬ 288230376287764481 ≤ b := by omega
  have g3 : ¬ p < 0 := by omega
  clear R
  go_enter Tryd.func29, Tryd.ntmps29
  go_wp2_with fail
  refine cM.out.mono ?_
  rintro e w2 ⟨rfl, hb⟩
  have B2 := Lib.hid (bThen B.out hb (by simp))
  clear hb
  go_wp2_with fail
  go_ret2
  exact ⟨rfl, B2.out⟩
theorem nEndN (a b p : Int) (h : ¬ (a < 288230376287764481 ∧ b < 288230376287764481 ∧ 0 ≤ p)) (w : World) :
    Calls Tryd.prog 29 #[.int .u64 a, .int .u64 b, .int .i64 p] w fun e w' => e = .returned (.tuple #[.int .u64 0, errN 1]) ∧ w' = w := by
  by_cases g1 : 288230376287764481 ≤ a
  · clear h
    go_enter Tryd.func29, Tryd.ntmps29
    go_wp2_with fail
    go_ret2
    exact ⟨rfl, rfl⟩
  · by_cases g2 : 288230376287764481 ≤ b
    · clear h
      go_enter Tryd.func29, Tryd.ntmps29
      go_wp2_with fail
      go_ret2
      exact ⟨rfl, rfl⟩
    · have g3 : p < 0 := by omega
      clear h
      go_enter Tryd.func29, Tryd.ntmps29
      go_wp2_with fail
      go_ret2
      exact ⟨rfl, rfl⟩
theorem nMarkY (a b c : Int) (a0 : 0 ≤ a) (b0 : 0 ≤ b) (z0 : 0 ≤ c) (h : mayI a b c) (w : World) :
    Calls Tryd.prog 27 #[ntV a b c] w fun e w' => e = .returned (.tuple #[.int .u64 ((Obol.manyN [a.toNat, b.toNat, c.toNat] : Nat) : Int), .nilIface]) ∧ Below w.heap.size w w' := by
  have R := Lib.hid (Row.new w #[.int .u64 a, .int .u64 b, .int .u64 c] 41)
  have B := Lib.hid (bAlloc (Below.refl _ w) (.cells #[.int .u64 a, .int .u64 b, .int .u64 c] 41))
  have cC := Lib.hid (fun W => nCheckY a b c h W)
  have c0 := R.out.cell 0 rfl
  have c1 := R.out.cell 1 rfl
  have c2 := R.out.cell 2 rfl
  clear h
  go_enter Tryd.func27, Tryd.ntmps27
  go_wp2_with fail
  refine (cC.out _).mono ?_
  rintro e w1 ⟨rfl, hb1⟩
  have R1 := R.out.below hb1 R.out.lt
  have B1 := Lib.hid (bThen B.out hb1 (by simp))
  clear c0 c1 c2
  have c0 := R1.cell 0 rfl
  have c1 := R1.cell 1 rfl
  have c2 := R1.cell 2 rfl
  have cM := Lib.hid (cMany (some ⟨w1.heap.size, 0, none⟩) 3 3 [a.toNat, b.toNat, c.toNat] rfl (by omega) _ (slU3 a0 b0 z0 (Row.new w1 #[.int .u64 a, .int .u64 b, .int .u64 c] 22)))
  have B2 := Lib.hid (bAlloc B1.out (.cells #[.int .u64 a, .int .u64 b, .int .u64 c] 22))
  clear hb1 R1
  go_wp2_with fail
  refine cM.out.mono ?_
  rintro e w2 ⟨rfl, hb⟩
  have B3 := Lib.hid (bThen B2.out hb B2.out.size)
  clear hb
  go_wp2_with fail
  go_ret2
  exact ⟨rfl, B3.out⟩
theorem nMarkN (a b c : Int) (h : ¬ mayI a b c) (w : World) :
    Calls Tryd.prog 27 #[ntV a b c] w fun e w' => e = .returned (.tuple #[.int .u64 0, errN 1]) ∧ Below w.heap.size w w' := by
  have R := Lib.hid (Row.new w #[.int .u64 a, .int .u64 b, .int .u64 c] 41)
  have B := Lib.hid (bAlloc (Below.refl _ w) (.cells #[.int .u64 a, .int .u64 b, .int .u64 c] 41))
  have cC := Lib.hid (fun W => nCheckN a b c h W)
  have c0 := R.out.cell 0 rfl
  have c1 := R.out.cell 1 rfl
  have c2 := R.out.cell 2 rfl
  clear h
  go_enter Tryd.func27, Tryd.ntmps27
  go_wp2_with fail
  refine (cC.out _).mono ?_
  rintro e w1 ⟨rfl, hb1⟩
  have B1 := Lib.hid (bThen B.out hb1 (by simp))
  clear hb1 c0 c1 c2
  go_wp2_with fail
  go_ret2
  exact ⟨rfl, B1.out⟩
end Go.Proofs.YtallfmiikjmgaaaDoor
