import Derived.Test.YtkfimfjjmdjbdaaUd
import Derived.Test.YtkfimfjjmdjbdaaUb
import Derived.Deep.CutBlock
import Derived.Deep.DeepCutAuto
set_option linter.unusedVariables false
set_option linter.unusedSimpArgs false
set_option linter.unusedSectionVars false
/- Walks: package curve: doubling and adding scaled points. -/
namespace Go.Proofs.Ytkfimfjjmdjbdaa
open Go.RowKit

theorem Row.at_held {w w1 wq : World} {rs : List (Nat × Array Value × TypeId)} {b : Nat} {cs : Array Value} {t : TypeId} (_ : HR w wq rs) (R : Row w1 b cs t) (e : wq.heap = w1.heap) : Row wq b cs t :=
  (congrArg (fun a : Array Obj => a[b]?) e).trans R
theorem HR.put3 {w w1 : World} {rs : List (Nat × Array Value × TypeId)} {D : Nat} {a b c u v x : Value} {t : TypeId} (h : HR w w1 ((D, #[a, b, c], t) :: rs)) (hne : ∀ r ∈ rs, r.1 ≠ D) (hD : w.heap.size ≤ D) :
    HR w (((w1.setCell ⟨D, 0, none⟩ u).setCell ⟨D, 1, none⟩ v).setCell ⟨D, 2, none⟩ x) ((D, #[u, v, x], t) :: rs) :=
  ((h.put hne hD 0 u).put hne hD 1 v).put hne hD 2 x
theorem HR.swap {w w1 : World} {rs : List (Nat × Array Value × TypeId)} {a b : Nat × Array Value × TypeId} (h : HR w w1 (a :: b :: rs)) : HR w w1 (b :: a :: rs) :=
  h.sub (fun r hr => by simp only [List.mem_cons] at hr ⊢; rcases hr with rfl | rfl | hr <;> simp [*])
set_option maxRecDepth 8000 in
set_option maxHeartbeats 4000000 in
theorem cTwice (X Y Z : Int) (hX : 0 ≤ X) (hY : 0 ≤ Y) (hZ : 0 ≤ Z) (w : World) :
    Calls Try.prog 74 #[scV X Y Z] w fun e w' =>
      e = .returned (scV ((Obol.twC (X.toNat, Y.toNat, Z.toNat)).1 : Nat) ((Obol.twC (X.toNat, Y.toNat, Z.toNat)).2.1 : Nat) ((Obol.twC (X.toNat, Y.toNat, Z.toNat)).2.2 : Nat)) ∧ Below w.heap.size w w' := by
  go_enter Try.func74, Try.ntmps74
  go_upto_region 1 with fail
  have hR1 := (((HR.refl w).new #[.int .u64 X, .int .u64 Y, .int .u64 Z] 113).new #[.int .u64 0, .int .u64 0, .int .u64 0] 113)
  rw [World.size_alloc] at hR1
  have hbw := hR1.lt (b := w.heap.size + 1) (cs := #[.int .u64 0, .int .u64 0, .int .u64 0]) (t := 113) (by simp)
  generalize (w.alloc (.cells #[.int .u64 X, .int .u64 Y, .int .u64 Z] 113)).alloc (.cells #[.int .u64 0, .int .u64 0, .int .u64 0] 113) = w2 at hR1 hbw ⊢
  generalize hb2 : w.heap.size + 1 = b2 at hR1 hbw ⊢
  generalize hb1 : w.heap.size = b1 at hR1 ⊢
  have hbs : Hid (w.heap.size ≤ b1 ∧ b1 < b2) := Lib.hid (by omega)
  have R2 := Lib.hid (hR1.row (b := b2) (cs := #[.int .u64 0, .int .u64 0, .int .u64 0]) (t := 113) (by simp))
  have H0 : Hid (HR w w2 [(b1, #[.int .u64 X, .int .u64 Y, .int .u64 Z], 113)]) := Lib.hid hR1.tail
  clear hb1 hb2 hR1 hbw
  have c_b1_0 := H0.out.cell (b := b1) (cs := #[.int .u64 X, .int .u64 Y, .int .u64 Z]) (t := 113) (by simp) 0 rfl
  have c_b1_1 := H0.out.cell (b := b1) (cs := #[.int .u64 X, .int .u64 Y, .int .u64 Z]) (t := 113) (by simp) 1 rfl
  have c_b1_2 := H0.out.cell (b := b1) (cs := #[.int .u64 X, .int .u64 Y, .int .u64 Z]) (t := 113) (by simp) 2 rfl
  go_upto_region 6 with (first | (go_at_call 72; refine (cMul _ _ (by omega) (by omega) _).mono ?_; rintro e w' ⟨rfl, n, rfl⟩) | (go_at_call 92; refine (cSub _ _ (by omega) (by omega) _).mono ?_; rintro e w' ⟨rfl, n, rfl⟩) | (go_at_call 68; refine (PAdd _ _ (by omega) (by omega) _).mono ?_; rintro e w' ⟨rfl, n, rfl⟩))
  clear c_b1_0 c_b1_1 c_b1_2
  refine wp_region_noPanic ?_
  refine wp_region_held_drew (S := fun wq => wq.cell? ⟨b1, 0, none⟩ = some (.int .u64 X) ∧ wq.cell? ⟨b1, 1, none⟩ = some (.int .u64 Y) ∧ wq.cell? ⟨b1, 2, none⟩ = some (.int .u64 Z) ∧ HR w wq [(b1, #[.int .u64 X, .int .u64 Y, .int .u64 Z], 113)]) (by kernel_rfl) ?_ (fun hHeld => ?_)
  · exact ⟨HR.cell (HR.like H0.out rfl rfl rfl rfl) (b := b1) (cs := #[.int .u64 X, .int .u64 Y, .int .u64 Z]) (t := 113) (by simp) 0 rfl, HR.cell (HR.like H0.out rfl rfl rfl rfl) (b := b1) (cs := #[.int .u64 X, .int .u64 Y, .int .u64 Z]) (t := 113) (by simp) 1 rfl, HR.cell (HR.like H0.out rfl rfl rfl rfl) (b := b1) (cs := #[.int .u64 X, .int .u64 Y, .int .u64 Z]) (t := 113) (by simp) 2 rfl, (HR.like H0.out rfl rfl rfl rfl)⟩
  refine tk 0 hHeld ?_; refine tk 1 hHeld ?_; refine tk 2 hHeld ?_; refine tk 3 hHeld ?_; refine tk 6 hHeld ?_; refine tk 7 hHeld ?_; refine tk 11 hHeld ?_; refine tk 12 hHeld ?_; refine tk 13 hHeld ?_; refine tk 14 hHeld ?_
  refine stepH 4 (by kernel_rfl) rfl (by rfl) (fun K hK => ?_)
  go_simp
  refine (cSub _ _ (by omega) (by omega) _).mono ?_
  rintro e wq' ⟨rfl, nq1, rfl⟩
  refine hK.out _ _ ?_ (fun hHeld => ?_)
  · exact ⟨HR.cell (HR.like hHeld.2.2.2 rfl rfl rfl rfl) (b := b1) (cs := #[.int .u64 X, .int .u64 Y, .int .u64 Z]) (t := 113) (by simp) 0 rfl, HR.cell (HR.like hHeld.2.2.2 rfl rfl rfl rfl) (b := b1) (cs := #[.int .u64 X, .int .u64 Y, .int .u64 Z]) (t := 113) (by simp) 1 rfl, HR.cell (HR.like hHeld.2.2.2 rfl rfl rfl rfl) (b := b1) (cs := #[.int .u64 X, .int .u64 Y, .int .u64 Z]) (t := 113) (by simp) 2 rfl, (HR.like hHeld.2.2.2 rfl rfl rfl rfl)⟩
  clear hK K
  try simp only [Act.put, List.setIfInBounds_toArray, List.set_cons_zero, List.set_cons_succ]
  refine stepH 5 (by kernel_rfl) rfl (by rfl) (fun K hK => ?_)
  go_simp
  refine (cMul _ _ (by omega) (by omega) _).mono ?_
  rintro e wq' ⟨rfl, nq2, rfl⟩
  refine hK.out _ _ ?_ (fun hHeld => ?_)
  · exact ⟨HR.cell (HR.like hHeld.2.2.2 rfl rfl rfl rfl) (b := b1) (cs := #[.int .u64 X, .int .u64 Y, .int .u64 Z]) (t := 113) (by simp) 0 rfl, HR.cell (HR.like hHeld.2.2.2 rfl rfl rfl rfl) (b := b1) (cs := #[.int .u64 X, .int .u64 Y, .int .u64 Z]) (t := 113) (by simp) 1 rfl, HR.cell (HR.like hHeld.2.2.2 rfl rfl rfl rfl) (b := b1) (cs := #[.int .u64 X, .int .u64 Y, .int .u64 Z]) (t := 113) (by simp) 2 rfl, (HR.like hHeld.2.2.2 rfl rfl rfl rfl)⟩
  clear hK K
  try simp only [Act.put, List.setIfInBounds_toArray, List.set_cons_zero, List.set_cons_succ]
  refine stepH 8 (by kernel_rfl) rfl (by rfl) (fun K hK => ?_)
  go_simp
  refine (cMul _ _ (by omega) (by omega) _).mono ?_
  rintro e wq' ⟨rfl, nq3, rfl⟩
  refine hK.out _ _ ?_ (fun hHeld => ?_)
  · exact ⟨HR.cell (HR.like hHeld.2.2.2 rfl rfl rfl rfl) (b := b1) (cs := #[.int .u64 X, .int .u64 Y, .int .u64 Z]) (t := 113) (by simp) 0 rfl, HR.cell (HR.like hHeld.2.2.2 rfl rfl rfl rfl) (b := b1) (cs := #[.int .u64 X, .int .u64 Y, .int .u64 Z]) (t := 113) (by simp) 1 rfl, HR.cell (HR.like hHeld.2.2.2 rfl rfl rfl rfl) (b := b1) (cs := #[.int .u64 X, .int .u64 Y, .int .u64 Z]) (t := 113) (by simp) 2 rfl, (HR.like hHeld.2.2.2 rfl rfl rfl rfl)⟩
  clear hK K
  try simp only [Act.put, List.setIfInBounds_toArray, List.set_cons_zero, List.set_cons_succ]
  refine stepH 9 (by kernel_rfl) rfl (by rfl) (fun K hK => ?_)
  go_simp
  refine (cMul _ _ (by omega) (by omega) _).mono ?_
  rintro e wq' ⟨rfl, nq4, rfl⟩
  refine hK.out _ _ ?_ (fun hHeld => ?_)
  · exact ⟨HR.cell (HR.like hHeld.2.2.2 rfl rfl rfl rfl) (b := b1) (cs := #[.int .u64 X, .int .u64 Y, .int .u64 Z]) (t := 113) (by simp) 0 rfl, HR.cell (HR.like hHeld.2.2.2 rfl rfl rfl rfl) (b := b1) (cs := #[.int .u64 X, .int .u64 Y, .int .u64 Z]) (t := 113) (by simp) 1 rfl, HR.cell (HR.like hHeld.2.2.2 rfl rfl rfl rfl) (b := b1) (cs := #[.int .u64 X, .int .u64 Y, .int .u64 Z]) (t := 113) (by simp) 2 rfl, (HR.like hHeld.2.2.2 rfl rfl rfl rfl)⟩
  clear hK K
  try simp only [Act.put, List.setIfInBounds_toArray, List.set_cons_zero, List.set_cons_succ]
  refine stepH 10 (by kernel_rfl) rfl (by rfl) (fun K hK => ?_)
  go_simp
  refine (cSub _ _ (by omega) (by omega) _).mono ?_
  rintro e wq' ⟨rfl, nq5, rfl⟩
  refine hK.out _ _ ?_ (fun hHeld => ?_)
  · exact ⟨HR.cell (HR.like hHeld.2.2.2 rfl rfl rfl rfl) (b := b1) (cs := #[.int .u64 X, .int .u64 Y, .int .u64 Z]) (t := 113) (by simp) 0 rfl, HR.cell (HR.like hHeld.2.2.2 rfl rfl rfl rfl) (b := b1) (cs := #[.int .u64 X, .int .u64 Y, .int .u64 Z]) (t := 113) (by simp) 1 rfl, HR.cell (HR.like hHeld.2.2.2 rfl rfl rfl rfl) (b := b1) (cs := #[.int .u64 X, .int .u64 Y, .int .u64 Z]) (t := 113) (by simp) 2 rfl, (HR.like hHeld.2.2.2 rfl rfl rfl rfl)⟩
  clear hK K
  try simp only [Act.put, List.setIfInBounds_toArray, List.set_cons_zero, List.set_cons_succ]
  refine stepH 15 (by kernel_rfl) rfl (by rfl) (fun K hK => ?_)
  go_simp
  refine (cMul _ _ (by omega) (by omega) _).mono ?_
  rintro e wq' ⟨rfl, nq6, rfl⟩
  refine hK.out _ _ ?_ (fun hHeld => ?_)
  · exact ⟨HR.cell (HR.like hHeld.2.2.2 rfl rfl rfl rfl) (b := b1) (cs := #[.int .u64 X, .int .u64 Y, .int .u64 Z]) (t := 113) (by simp) 0 rfl, HR.cell (HR.like hHeld.2.2.2 rfl rfl rfl rfl) (b := b1) (cs := #[.int .u64 X, .int .u64 Y, .int .u64 Z]) (t := 113) (by simp) 1 rfl, HR.cell (HR.like hHeld.2.2.2 rfl rfl rfl rfl) (b := b1) (cs := #[.int .u64 X, .int .u64 Y, .int .u64 Z]) (t := 113) (by simp) 2 rfl, (HR.like hHeld.2.2.2 rfl rfl rfl rfl)⟩
  clear hK K
  try simp only [Act.put, List.setIfInBounds_toArray, List.set_cons_zero, List.set_cons_succ]
  refine stepH 16 (by kernel_rfl) rfl (by rfl) (fun K hK => ?_)
  go_simp
  refine (cMul _ _ (by omega) (by omega) _).mono ?_
  rintro e wq' ⟨rfl, nq7, rfl⟩
  refine hK.out _ _ ?_ (fun hHeld => ?_)
  · exact ⟨HR.cell (HR.like hHeld.2.2.2 rfl rfl rfl rfl) (b := b1) (cs := #[.int .u64 X, .int .u64 Y, .int .u64 Z]) (t := 113) (by simp) 0 rfl, HR.cell (HR.like hHeld.2.2.2 rfl rfl rfl rfl) (b := b1) (cs := #[.int .u64 X, .int .u64 Y, .int .u64 Z]) (t := 113) (by simp) 1 rfl, HR.cell (HR.like hHeld.2.2.2 rfl rfl rfl rfl) (b := b1) (cs := #[.int .u64 X, .int .u64 Y, .int .u64 Z]) (t := 113) (by simp) 2 rfl, (HR.like hHeld.2.2.2 rfl rfl rfl rfl)⟩
  clear hK K
  try simp only [Act.put, List.setIfInBounds_toArray, List.set_cons_zero, List.set_cons_succ]
  refine tk 17 hHeld ?_
  have rc0 : ∀ n, (w2.drewN n).cell? ⟨b2, 0, none⟩ = some (.int .u64 0) := fun n => (R2.out.drewN n).cell 0 rfl
  have rc1 : ∀ n, (w2.drewN n).cell? ⟨b2, 1, none⟩ = some (.int .u64 0) := fun n => (R2.out.drewN n).cell 1 rfl
  have rc2 : ∀ n, (w2.drewN n).cell? ⟨b2, 2, none⟩ = some (.int .u64 0) := fun n => (R2.out.drewN n).cell 2 rfl
  have rf0 : ∀ n, (w2.drewN n).frozen? ⟨b2, 0, none⟩ = false := fun n => (R2.out.drewN n).free 0
  have rf1 : ∀ n, (w2.drewN n).frozen? ⟨b2, 1, none⟩ = false := fun n => (R2.out.drewN n).free 1
  have rf2 : ∀ n, (w2.drewN n).frozen? ⟨b2, 2, none⟩ = false := fun n => (R2.out.drewN n).free 2
  refine stepH 18 (by kernel_rfl) rfl (by rfl) (fun K hK => ?_)
  go_simp
  refine hK.out _ _ ?_ (fun hHeld => ?_)
  · exact ⟨HR.cell (HR.other (HR.other (HR.other (H0.out.drewN _) (by simp; have := hbs.out; omega) (by have := hbs.out; omega)) (by simp; have := hbs.out; omega) (by have := hbs.out; omega)) (by simp; have := hbs.out; omega) (by have := hbs.out; omega)) (b := b1) (cs := #[.int .u64 X, .int .u64 Y, .int .u64 Z]) (t := 113) (by simp) 0 rfl, HR.cell (HR.other (HR.other (HR.other (H0.out.drewN _) (by simp; have := hbs.out; omega) (by have := hbs.out; omega)) (by simp; have := hbs.out; omega) (by have := hbs.out; omega)) (by simp; have := hbs.out; omega) (by have := hbs.out; omega)) (b := b1) (cs := #[.int .u64 X, .int .u64 Y, .int .u64 Z]) (t := 113) (by simp) 1 rfl, HR.cell (HR.other (HR.other (HR.other (H0.out.drewN _) (by simp; have := hbs.out; omega) (by have := hbs.out; omega)) (by simp; have := hbs.out; omega) (by have := hbs.out; omega)) (by simp; have := hbs.out; omega) (by have := hbs.out; omega)) (b := b1) (cs := #[.int .u64 X, .int .u64 Y, .int .u64 Z]) (t := 113) (by simp) 2 rfl, (HR.other (HR.other (HR.other (H0.out.drewN _) (by simp; have := hbs.out; omega) (by have := hbs.out; omega)) (by simp; have := hbs.out; omega) (by have := hbs.out; omega)) (by simp; have := hbs.out; omega) (by have := hbs.out; omega))⟩
  clear hK K
  try simp only [Act.put, List.setIfInBounds_toArray, List.set_cons_zero, List.set_cons_succ]
  refine wpAnyH_done (by kernel_rfl) (NoPanic.normal ?_) _
  have hL := Lib.hid hHeld.2.2.2.2
  clear hHeld rc0 rc1 rc2 rf0 rf1 rf2
  have s0 : ∀ n v0 v1 v2, ((((w2.drewN n).setCell ⟨b2, 0, none⟩ v0).setCell ⟨b2, 1, none⟩ v1).setCell ⟨b2, 2, none⟩ v2).cell? ⟨b2, 0, none⟩ = some v0 := fun n v0 v1 v2 => (R2.out.drewN n).set3.cell 0 rfl
  have s1 : ∀ n v0 v1 v2, ((((w2.drewN n).setCell ⟨b2, 0, none⟩ v0).setCell ⟨b2, 1, none⟩ v1).setCell ⟨b2, 2, none⟩ v2).cell? ⟨b2, 1, none⟩ = some v1 := fun n v0 v1 v2 => (R2.out.drewN n).set3.cell 1 rfl
  have s2 : ∀ n v0 v1 v2, ((((w2.drewN n).setCell ⟨b2, 0, none⟩ v0).setCell ⟨b2, 1, none⟩ v1).setCell ⟨b2, 2, none⟩ v2).cell? ⟨b2, 2, none⟩ = some v2 := fun n v0 v1 v2 => (R2.out.drewN n).set3.cell 2 rfl
  go_wp2_with fail
  refine bodyPost_ret (v := scV _ _ _) (by simp [results, Try.results74, go_sem, s0, s1, s2]; try exact ⟨rfl, rfl, rfl⟩) rfl ⟨rfl, hL.out⟩
set_option maxRecDepth 8000 in
set_option maxHeartbeats 4000000 in
theorem cMore0 (X Y Z BX BY : Int) (hX : 0 ≤ X) (hY : 0 ≤ Y) (hZ : 0 ≤ Z) (hBX : 0 ≤ BX) (hBY : 0 ≤ BY) (hz : Z = 0) (w : World) :
    Calls Try.prog 75 #[scV X Y Z, ptV false BX BY] w fun e w' => e = .returned (scV (((Obol.moC (X.toNat, Y.toNat, Z.toNat) (BX.toNat, BY.toNat)).1 : Nat) : Int) (((Obol.moC (X.toNat, Y.toNat, Z.toNat) (BX.toNat, BY.toNat)).2.1 : Nat) : Int) (((Obol.moC (X.toNat, Y.toNat, Z.toNat) (BX.toNat, BY.toNat)).2.2 : Nat) : Int)) ∧ Below w.heap.size w w' := by
  have hm : Hid ((Obol.moC (X.toNat, Y.toNat, Z.toNat) (BX.toNat, BY.toNat)) = (BX.toNat, BY.toNat, 1)) := Lib.hid (by unfold Obol.moC; simp only; rw [if_pos (by omega)])
  subst hz
  go_enter Try.func75, Try.ntmps75
  go_upto_region 1 with fail
  have hR1 := (((HR.refl w).new #[.int .u64 X, .int .u64 Y, .int .u64 0] 113).new #[.bool false, .int .u64 BX, .int .u64 BY] 31).new #[.int .u64 0, .int .u64 0, .int .u64 0] 113
  simp only [World.size_alloc] at hR1
  have hbw := hR1.lt (b := w.heap.size + 1 + 1) (cs := #[.int .u64 0, .int .u64 0, .int .u64 0]) (t := 113) (by simp)
  generalize ((w.alloc (.cells #[.int .u64 X, .int .u64 Y, .int .u64 0] 113)).alloc (.cells #[.bool false, .int .u64 BX, .int .u64 BY] 31)).alloc (.cells #[.int .u64 0, .int .u64 0, .int .u64 0] 113) = w2 at hR1 hbw ⊢
  generalize hb2 : w.heap.size + 1 + 1 = b2 at hR1 hbw ⊢
  generalize hb4 : w.heap.size + 1 = b4 at hR1 ⊢
  generalize hb1 : w.heap.size = b1 at hR1 ⊢
  have hbs : Hid (w.heap.size ≤ b1 ∧ b1 < b2 ∧ b1 < b4 ∧ b4 < b2) := Lib.hid (by omega)
  have R2 := Lib.hid (hR1.row (b := b2) (cs := #[.int .u64 0, .int .u64 0, .int .u64 0]) (t := 113) (by simp))
  have H0 : Hid (HR w w2 [(b4, #[.bool false, .int .u64 BX, .int .u64 BY], 31), (b1, #[.int .u64 X, .int .u64 Y, .int .u64 0], 113)]) := Lib.hid hR1.tail
  clear hb1 hb2 hb4 hR1 hbw
  have c_b1_0 := H0.out.cell (b := b1) (cs := #[.int .u64 X, .int .u64 Y, .int .u64 0]) (t := 113) (by simp) 0 rfl
  have c_b1_1 := H0.out.cell (b := b1) (cs := #[.int .u64 X, .int .u64 Y, .int .u64 0]) (t := 113) (by simp) 1 rfl
  have c_b1_2 := H0.out.cell (b := b1) (cs := #[.int .u64 X, .int .u64 Y, .int .u64 0]) (t := 113) (by simp) 2 rfl
  have c_b4_0 := H0.out.cell (b := b4) (cs := #[.bool false, .int .u64 BX, .int .u64 BY]) (t := 31) (by simp) 0 rfl
  have c_b4_1 := H0.out.cell (b := b4) (cs := #[.bool false, .int .u64 BX, .int .u64 BY]) (t := 31) (by simp) 1 rfl
  have c_b4_2 := H0.out.cell (b := b4) (cs := #[.bool false, .int .u64 BX, .int .u64 BY]) (t := 31) (by simp) 2 rfl
  have rc0 := R2.out.cell 0 rfl
  have rc1 := R2.out.cell 1 rfl
  have rc2 := R2.out.cell 2 rfl
  have rf0 := R2.out.free 0
  have rf1 := R2.out.free 1
  have rf2 := R2.out.free 2
  go_wp2_with fail
  clear c_b1_0 c_b1_1 c_b1_2 c_b4_0 c_b4_1 c_b4_2
  have hS := R2.out.set3 (v0 := .int .u64 BX) (v1 := .int .u64 BY) (v2 := .int .u64 1)
  have s0 := hS.cell 0 rfl
  have s1 := hS.cell 1 rfl
  have s2 := hS.cell 2 rfl
  have hL := Lib.hid (HR.other (HR.other (HR.other H0.out (D := b2) (o := 0) (v := .int .u64 BX) (by simp; have := hbs.out; omega) (by have := hbs.out; omega)) (D := b2) (o := 1) (v := .int .u64 BY) (by simp; have := hbs.out; omega) (by have := hbs.out; omega)) (D := b2) (o := 2) (v := .int .u64 1) (by simp; have := hbs.out; omega) (by have := hbs.out; omega)).2
  refine bodyPost_ret (v := scV BX BY 1) (by simp [results, Try.results75, go_sem, s0, s1, s2]) rfl ⟨by rw [hm.out]; simp only; rw [Int.toNat_of_nonneg hBX, Int.toNat_of_nonneg hBY]; rfl, hL.out⟩
set_option maxRecDepth 8000 in
set_option maxHeartbeats 4000000 in
theorem cMore1 (X Y Z BX BY : Int) (hX : 0 ≤ X) (hY : 0 ≤ Y) (hZ : 0 ≤ Z) (hBX : 0 ≤ BX) (hBY : 0 ≤ BY) (hz : Z ≠ 0) (he : Obol.subP (Obol.mulP BX.toNat (Obol.mulP Z.toNat Z.toNat)) X.toNat = 0 ∧ Obol.subP (Obol.mulP BY.toNat (Obol.mulP (Obol.mulP Z.toNat Z.toNat) Z.toNat)) Y.toNat = 0) (w : World) :
    Calls Try.prog 75 #[scV X Y Z, ptV false BX BY] w fun e w' => e = .returned (scV (((Obol.moC (X.toNat, Y.toNat, Z.toNat) (BX.toNat, BY.toNat)).1 : Nat) : Int) (((Obol.moC (X.toNat, Y.toNat, Z.toNat) (BX.toNat, BY.toNat)).2.1 : Nat) : Int) (((Obol.moC (X.toNat, Y.toNat, Z.toNat) (BX.toNat, BY.toNat)).2.2 : Nat) : Int)) ∧ Below w.heap.size w w' := by
  have hm : Hid ((Obol.moC (X.toNat, Y.toNat, Z.toNat) (BX.toNat, BY.toNat)) = Obol.twC (X.toNat, Y.toNat, Z.toNat)) := Lib.hid (by unfold Obol.moC; simp only; rw [if_neg (by omega), if_pos he])
  have hz2 : (Z == 0) = false := beq_eq_false_iff_ne.2 hz
  replace hz := Lib.hid hz
  obtain ⟨zz, hzz⟩ : ∃ n, Obol.mulP Z.toNat Z.toNat = n := ⟨_, rfl⟩
  obtain ⟨h, hh⟩ : ∃ n, Obol.subP (Obol.mulP BX.toNat zz) X.toNat = n := ⟨_, rfl⟩
  obtain ⟨r, hr⟩ : ∃ n, Obol.subP (Obol.mulP BY.toNat (Obol.mulP zz Z.toNat)) Y.toNat = n := ⟨_, rfl⟩
  rw [hzz, hh, hr] at he
  obtain ⟨rfl, rfl⟩ := he
  go_enter Try.func75, Try.ntmps75
  go_upto_region 1 with fail
  have hR1 := (((HR.refl w).new #[.int .u64 X, .int .u64 Y, .int .u64 Z] 113).new #[.bool false, .int .u64 BX, .int .u64 BY] 31).new #[.int .u64 0, .int .u64 0, .int .u64 0] 113
  simp only [World.size_alloc] at hR1
  have hbw := hR1.lt (b := w.heap.size + 1 + 1) (cs := #[.int .u64 0, .int .u64 0, .int .u64 0]) (t := 113) (by simp)
  generalize ((w.alloc (.cells #[.int .u64 X, .int .u64 Y, .int .u64 Z] 113)).alloc (.cells #[.bool false, .int .u64 BX, .int .u64 BY] 31)).alloc (.cells #[.int .u64 0, .int .u64 0, .int .u64 0] 113) = w2 at hR1 hbw ⊢
  generalize hb2 : w.heap.size + 1 + 1 = b2 at hR1 hbw ⊢
  generalize hb4 : w.heap.size + 1 = b4 at hR1 ⊢
  generalize hb1 : w.heap.size = b1 at hR1 ⊢
  have hbs : Hid (w.heap.size ≤ b1 ∧ b1 < b2 ∧ b1 < b4 ∧ b4 < b2) := Lib.hid (by omega)
  have R2 := Lib.hid (hR1.row (b := b2) (cs := #[.int .u64 0, .int .u64 0, .int .u64 0]) (t := 113) (by simp))
  have H0 : Hid (HR w w2 [(b4, #[.bool false, .int .u64 BX, .int .u64 BY], 31), (b1, #[.int .u64 X, .int .u64 Y, .int .u64 Z], 113)]) := Lib.hid hR1.tail
  clear hb1 hb2 hb4 hR1 hbw
  have c_b1_0 := H0.out.cell (b := b1) (cs := #[.int .u64 X, .int .u64 Y, .int .u64 Z]) (t := 113) (by simp) 0 rfl
  have c_b1_1 := H0.out.cell (b := b1) (cs := #[.int .u64 X, .int .u64 Y, .int .u64 Z]) (t := 113) (by simp) 1 rfl
  have c_b1_2 := H0.out.cell (b := b1) (cs := #[.int .u64 X, .int .u64 Y, .int .u64 Z]) (t := 113) (by simp) 2 rfl
  have c_b4_0 := H0.out.cell (b := b4) (cs := #[.bool false, .int .u64 BX, .int .u64 BY]) (t := 31) (by simp) 0 rfl
  have c_b4_1 := H0.out.cell (b := b4) (cs := #[.bool false, .int .u64 BX, .int .u64 BY]) (t := 31) (by simp) 1 rfl
  have c_b4_2 := H0.out.cell (b := b4) (cs := #[.bool false, .int .u64 BX, .int .u64 BY]) (t := 31) (by simp) 2 rfl
  go_wp2_with (go_at_call 72; refine (cMul _ _ (by omega) (by omega) _).mono ?_; rintro e w' ⟨rfl, n, rfl⟩)
  go_quiet ((first | (go_at_call 72; first | (refine Calls.quiet_of (cMul _ _ ?_ ?_ _) <;> omega) | (refine quiet_add (cMul _ _ ?_ ?_ _) <;> omega)) | (go_at_call 92; first | (refine Calls.quiet_of (cSub _ _ ?_ ?_ _) <;> omega) | (refine quiet_add (cSub _ _ ?_ ?_ _) <;> omega))))
  go_wp2_with fail
  go_quiet ((first | (go_at_call 72; first | (refine Calls.quiet_of (cMul _ _ ?_ ?_ _) <;> omega) | (refine quiet_add (cMul _ _ ?_ ?_ _) <;> omega)) | (go_at_call 92; first | (refine Calls.quiet_of (cSub _ _ ?_ ?_ _) <;> omega) | (refine quiet_add (cSub _ _ ?_ ?_ _) <;> omega))))
  go_wp2_with fail
  refine (cTwice X Y Z hX hY hZ _).mono ?_
  rintro e w3 ⟨rfl, hb3⟩
  have H3 := Lib.hid ((H0.out.drewN _).next hb3)
  have R3 := Lib.hid ((R2.out.drewN _).below hb3 (R2.out.drewN _).lt)
  clear c_b1_0 c_b1_1 c_b1_2 c_b4_0 c_b4_1 c_b4_2
  have rc0 := R3.out.cell 0 rfl
  have rc1 := R3.out.cell 1 rfl
  have rc2 := R3.out.cell 2 rfl
  have rf0 := R3.out.free 0
  have rf1 := R3.out.free 1
  have rf2 := R3.out.free 2
  clear hb3
  obtain ⟨v0, hv0⟩ : ∃ z : Int, (((Obol.twC (X.toNat, Y.toNat, Z.toNat)).1 : Nat) : Int) = z := ⟨_, rfl⟩
  obtain ⟨v1, hv1⟩ : ∃ z : Int, (((Obol.twC (X.toNat, Y.toNat, Z.toNat)).2.1 : Nat) : Int) = z := ⟨_, rfl⟩
  obtain ⟨v2, hv2⟩ : ∃ z : Int, (((Obol.twC (X.toNat, Y.toNat, Z.toNat)).2.2 : Nat) : Int) = z := ⟨_, rfl⟩
  rw [hv0, hv1, hv2]
  replace hv0 := Lib.hid hv0
  replace hv1 := Lib.hid hv1
  replace hv2 := Lib.hid hv2
  go_wp2_with fail
  have hS := R3.out.set3 (v0 := .int .u64 v0) (v1 := .int .u64 v1) (v2 := .int .u64 v2)
  have s0 := hS.cell 0 rfl
  have s1 := hS.cell 1 rfl
  have s2 := hS.cell 2 rfl
  have hL := Lib.hid (HR.other (HR.other (HR.other H3.out (D := b2) (o := 0) (v := .int .u64 v0) (by simp; have := hbs.out; omega) (by have := hbs.out; omega)) (D := b2) (o := 1) (v := .int .u64 v1) (by simp; have := hbs.out; omega) (by have := hbs.out; omega)) (D := b2) (o := 2) (v := .int .u64 v2) (by simp; have := hbs.out; omega) (by have := hbs.out; omega)).2
  refine bodyPost_ret (v := scV v0 v1 v2) (by simp [results, Try.results75, go_sem, s0, s1, s2]) rfl ⟨by rw [hm.out, hv0.out, hv1.out, hv2.out], hL.out⟩
set_option maxRecDepth 8000 in
set_option maxHeartbeats 4000000 in
theorem cMore2 (X Y Z BX BY : Int) (hX : 0 ≤ X) (hY : 0 ≤ Y) (hZ : 0 ≤ Z) (hBX : 0 ≤ BX) (hBY : 0 ≤ BY) (hz : Z ≠ 0) (he : ¬ (Obol.subP (Obol.mulP BX.toNat (Obol.mulP Z.toNat Z.toNat)) X.toNat = 0 ∧ Obol.subP (Obol.mulP BY.toNat (Obol.mulP (Obol.mulP Z.toNat Z.toNat) Z.toNat)) Y.toNat = 0)) (w : World) :
    Calls Try.prog 75 #[scV X Y Z, ptV false BX BY] w fun e w' => e = .returned (scV (((Obol.moC (X.toNat, Y.toNat, Z.toNat) (BX.toNat, BY.toNat)).1 : Nat) : Int) (((Obol.moC (X.toNat, Y.toNat, Z.toNat) (BX.toNat, BY.toNat)).2.1 : Nat) : Int) (((Obol.moC (X.toNat, Y.toNat, Z.toNat) (BX.toNat, BY.toNat)).2.2 : Nat) : Int)) ∧ Below w.heap.size w w' := by
  obtain ⟨zz, hzz⟩ : ∃ n, Obol.mulP Z.toNat Z.toNat = n := ⟨_, rfl⟩
  obtain ⟨h, hh⟩ : ∃ n, Obol.subP (Obol.mulP BX.toNat zz) X.toNat = n := ⟨_, rfl⟩
  obtain ⟨r, hr⟩ : ∃ n, Obol.subP (Obol.mulP BY.toNat (Obol.mulP zz Z.toNat)) Y.toNat = n := ⟨_, rfl⟩
  rw [hzz, hh, hr] at he
  have hm : Hid ((Obol.moC (X.toNat, Y.toNat, Z.toNat) (BX.toNat, BY.toNat)) = (Obol.subP (Obol.subP (Obol.mulP r r) (Obol.mulP h (Obol.mulP h h))) (Obol.addP (Obol.mulP X.toNat (Obol.mulP h h)) (Obol.mulP X.toNat (Obol.mulP h h))), Obol.subP (Obol.mulP r (Obol.subP (Obol.mulP X.toNat (Obol.mulP h h)) (Obol.subP (Obol.subP (Obol.mulP r r) (Obol.mulP h (Obol.mulP h h))) (Obol.addP (Obol.mulP X.toNat (Obol.mulP h h)) (Obol.mulP X.toNat (Obol.mulP h h)))))) (Obol.mulP Y.toNat (Obol.mulP h (Obol.mulP h h))), Obol.mulP h Z.toNat)) := Lib.hid (by unfold Obol.moC; simp only; rw [hzz, hh, hr, if_neg (by omega), if_neg he])
  have hz2 : (Z == 0) = false := beq_eq_false_iff_ne.2 hz
  replace hz := Lib.hid hz
  by_cases h0 : h = 0
  · subst h0
    have r0 : (((r : Nat) : Int) == 0) = false := beq_eq_false_iff_ne.2 (by omega)
    replace he := Lib.hid he
    go_enter Try.func75, Try.ntmps75
    go_upto_region 1 with fail
    have hR1 := (((HR.refl w).new #[.int .u64 X, .int .u64 Y, .int .u64 Z] 113).new #[.bool false, .int .u64 BX, .int .u64 BY] 31).new #[.int .u64 0, .int .u64 0, .int .u64 0] 113
    simp only [World.size_alloc] at hR1
    have hbw := hR1.lt (b := w.heap.size + 1 + 1) (cs := #[.int .u64 0, .int .u64 0, .int .u64 0]) (t := 113) (by simp)
    generalize ((w.alloc (.cells #[.int .u64 X, .int .u64 Y, .int .u64 Z] 113)).alloc (.cells #[.bool false, .int .u64 BX, .int .u64 BY] 31)).alloc (.cells #[.int .u64 0, .int .u64 0, .int .u64 0] 113) = w2 at hR1 hbw ⊢
    generalize hb2 : w.heap.size + 1 + 1 = b2 at hR1 hbw ⊢
    generalize hb4 : w.heap.size + 1 = b4 at hR1 ⊢
    generalize hb1 : w.heap.size = b1 at hR1 ⊢
    have hbs : Hid (w.heap.size ≤ b1 ∧ b1 < b2 ∧ b1 < b4 ∧ b4 < b2) := Lib.hid (by omega)
    have R2 := Lib.hid (hR1.row (b := b2) (cs := #[.int .u64 0, .int .u64 0, .int .u64 0]) (t := 113) (by simp))
    have H0 : Hid (HR w w2 [(b4, #[.bool false, .int .u64 BX, .int .u64 BY], 31), (b1, #[.int .u64 X, .int .u64 Y, .int .u64 Z], 113)]) := Lib.hid hR1.tail
    clear hb1 hb2 hb4 hR1 hbw
    have c_b1_0 := H0.out.cell (b := b1) (cs := #[.int .u64 X, .int .u64 Y, .int .u64 Z]) (t := 113) (by simp) 0 rfl
    have c_b1_1 := H0.out.cell (b := b1) (cs := #[.int .u64 X, .int .u64 Y, .int .u64 Z]) (t := 113) (by simp) 1 rfl
    have c_b1_2 := H0.out.cell (b := b1) (cs := #[.int .u64 X, .int .u64 Y, .int .u64 Z]) (t := 113) (by simp) 2 rfl
    have c_b4_0 := H0.out.cell (b := b4) (cs := #[.bool false, .int .u64 BX, .int .u64 BY]) (t := 31) (by simp) 0 rfl
    have c_b4_1 := H0.out.cell (b := b4) (cs := #[.bool false, .int .u64 BX, .int .u64 BY]) (t := 31) (by simp) 1 rfl
    have c_b4_2 := H0.out.cell (b := b4) (cs := #[.bool false, .int .u64 BX, .int .u64 BY]) (t := 31) (by simp) 2 rfl
    go_wp2_with (go_at_call 72; refine (cMul _ _ (by omega) (by omega) _).mono ?_; rintro e w' ⟨rfl, n, rfl⟩)
    go_quiet ((first | (go_at_call 72; first | (refine Calls.quiet_of (cMul _ _ ?_ ?_ _) <;> omega) | (refine quiet_add (cMul _ _ ?_ ?_ _) <;> omega)) | (go_at_call 92; first | (refine Calls.quiet_of (cSub _ _ ?_ ?_ _) <;> omega) | (refine quiet_add (cSub _ _ ?_ ?_ _) <;> omega))))
    go_wp2_with fail
    go_quiet ((first | (go_at_call 72; first | (refine Calls.quiet_of (cMul _ _ ?_ ?_ _) <;> omega) | (refine quiet_add (cMul _ _ ?_ ?_ _) <;> omega)) | (go_at_call 92; first | (refine Calls.quiet_of (cSub _ _ ?_ ?_ _) <;> omega) | (refine quiet_add (cSub _ _ ?_ ?_ _) <;> omega))))
    go_wp2_with (go_at_call 72; refine (cMul _ _ (by omega) (by omega) _).mono ?_; rintro e w' ⟨rfl, n, rfl⟩)
    go_quiet ((first | (go_at_call 72; first | (refine Calls.quiet_of (cMul _ _ ?_ ?_ _) <;> omega) | (refine quiet_add (cMul _ _ ?_ ?_ _) <;> omega))))
    go_upto_region 11 with (first | (go_at_call 72; refine (cMul _ _ (by omega) (by omega) _).mono ?_; rintro e w' ⟨rfl, n, rfl⟩) | (go_at_call 92; refine (cSub _ _ (by omega) (by omega) _).mono ?_; rintro e w' ⟨rfl, n, rfl⟩) | (go_at_call 68; refine (PAdd _ _ (by omega) (by omega) _).mono ?_; rintro e w' ⟨rfl, n, rfl⟩))
    clear c_b1_0 c_b1_1 c_b1_2 c_b4_0 c_b4_1 c_b4_2
    refine wp_region_noPanic ?_
    refine wp_region_held_drew (S := fun wq => wq.cell? ⟨b1, 0, none⟩ = some (.int .u64 X) ∧ wq.cell? ⟨b1, 1, none⟩ = some (.int .u64 Y) ∧ wq.cell? ⟨b1, 2, none⟩ = some (.int .u64 Z) ∧ HR w wq [(b4, #[.bool false, .int .u64 BX, .int .u64 BY], 31), (b1, #[.int .u64 X, .int .u64 Y, .int .u64 Z], 113)]) (by kernel_rfl) ?_ (fun hHeld => ?_)
    · exact ⟨HR.cell (HR.like H0.out rfl rfl rfl rfl) (b := b1) (cs := #[.int .u64 X, .int .u64 Y, .int .u64 Z]) (t := 113) (by simp) 0 rfl, HR.cell (HR.like H0.out rfl rfl rfl rfl) (b := b1) (cs := #[.int .u64 X, .int .u64 Y, .int .u64 Z]) (t := 113) (by simp) 1 rfl, HR.cell (HR.like H0.out rfl rfl rfl rfl) (b := b1) (cs := #[.int .u64 X, .int .u64 Y, .int .u64 Z]) (t := 113) (by simp) 2 rfl, (HR.like H0.out rfl rfl rfl rfl)⟩
    refine tk 0 hHeld ?_; refine tk 1 hHeld ?_; refine tk 2 hHeld ?_; refine tk 3 hHeld ?_; refine tk 6 hHeld ?_; refine tk 7 hHeld ?_; refine tk 8 hHeld ?_; refine tk 11 hHeld ?_; refine tk 12 hHeld ?_; refine tk 13 hHeld ?_
    refine stepH 4 (by kernel_rfl) rfl (by rfl) (fun K hK => ?_)
    go_simp
    refine (cSub _ _ (by omega) (by omega) _).mono ?_
    rintro e wq' ⟨rfl, nq1, rfl⟩
    refine hK.out _ _ ?_ (fun hHeld => ?_)
    · exact ⟨HR.cell (HR.like hHeld.2.2.2 rfl rfl rfl rfl) (b := b1) (cs := #[.int .u64 X, .int .u64 Y, .int .u64 Z]) (t := 113) (by simp) 0 rfl, HR.cell (HR.like hHeld.2.2.2 rfl rfl rfl rfl) (b := b1) (cs := #[.int .u64 X, .int .u64 Y, .int .u64 Z]) (t := 113) (by simp) 1 rfl, HR.cell (HR.like hHeld.2.2.2 rfl rfl rfl rfl) (b := b1) (cs := #[.int .u64 X, .int .u64 Y, .int .u64 Z]) (t := 113) (by simp) 2 rfl, (HR.like hHeld.2.2.2 rfl rfl rfl rfl)⟩
    clear hK K
    try simp only [Act.put, List.setIfInBounds_toArray, List.set_cons_zero, List.set_cons_succ]
    refine stepH 5 (by kernel_rfl) rfl (by rfl) (fun K hK => ?_)
    go_simp
    refine (cMul _ _ (by omega) (by omega) _).mono ?_
    rintro e wq' ⟨rfl, nq2, rfl⟩
    refine hK.out _ _ ?_ (fun hHeld => ?_)
    · exact ⟨HR.cell (HR.like hHeld.2.2.2 rfl rfl rfl rfl) (b := b1) (cs := #[.int .u64 X, .int .u64 Y, .int .u64 Z]) (t := 113) (by simp) 0 rfl, HR.cell (HR.like hHeld.2.2.2 rfl rfl rfl rfl) (b := b1) (cs := #[.int .u64 X, .int .u64 Y, .int .u64 Z]) (t := 113) (by simp) 1 rfl, HR.cell (HR.like hHeld.2.2.2 rfl rfl rfl rfl) (b := b1) (cs := #[.int .u64 X, .int .u64 Y, .int .u64 Z]) (t := 113) (by simp) 2 rfl, (HR.like hHeld.2.2.2 rfl rfl rfl rfl)⟩
    clear hK K
    try simp only [Act.put, List.setIfInBounds_toArray, List.set_cons_zero, List.set_cons_succ]
    refine stepH 9 (by kernel_rfl) rfl (by rfl) (fun K hK => ?_)
    go_simp
    refine (cMul _ _ (by omega) (by omega) _).mono ?_
    rintro e wq' ⟨rfl, nq3, rfl⟩
    refine hK.out _ _ ?_ (fun hHeld => ?_)
    · exact ⟨HR.cell (HR.like hHeld.2.2.2 rfl rfl rfl rfl) (b := b1) (cs := #[.int .u64 X, .int .u64 Y, .int .u64 Z]) (t := 113) (by simp) 0 rfl, HR.cell (HR.like hHeld.2.2.2 rfl rfl rfl rfl) (b := b1) (cs := #[.int .u64 X, .int .u64 Y, .int .u64 Z]) (t := 113) (by simp) 1 rfl, HR.cell (HR.like hHeld.2.2.2 rfl rfl rfl rfl) (b := b1) (cs := #[.int .u64 X, .int .u64 Y, .int .u64 Z]) (t := 113) (by simp) 2 rfl, (HR.like hHeld.2.2.2 rfl rfl rfl rfl)⟩
    clear hK K
    try simp only [Act.put, List.setIfInBounds_toArray, List.set_cons_zero, List.set_cons_succ]
    refine stepH 10 (by kernel_rfl) rfl (by rfl) (fun K hK => ?_)
    go_simp
    refine (cSub _ _ (by omega) (by omega) _).mono ?_
    rintro e wq' ⟨rfl, nq4, rfl⟩
    refine hK.out _ _ ?_ (fun hHeld => ?_)
    · exact ⟨HR.cell (HR.like hHeld.2.2.2 rfl rfl rfl rfl) (b := b1) (cs := #[.int .u64 X, .int .u64 Y, .int .u64 Z]) (t := 113) (by simp) 0 rfl, HR.cell (HR.like hHeld.2.2.2 rfl rfl rfl rfl) (b := b1) (cs := #[.int .u64 X, .int .u64 Y, .int .u64 Z]) (t := 113) (by simp) 1 rfl, HR.cell (HR.like hHeld.2.2.2 rfl rfl rfl rfl) (b := b1) (cs := #[.int .u64 X, .int .u64 Y, .int .u64 Z]) (t := 113) (by simp) 2 rfl, (HR.like hHeld.2.2.2 rfl rfl rfl rfl)⟩
    clear hK K
    try simp only [Act.put, List.setIfInBounds_toArray, List.set_cons_zero, List.set_cons_succ]
    refine stepH 14 (by kernel_rfl) rfl (by rfl) (fun K hK => ?_)
    go_simp
    refine (cMul _ _ (by omega) (by omega) _).mono ?_
    rintro e wq' ⟨rfl, nq5, rfl⟩
    refine hK.out _ _ ?_ (fun hHeld => ?_)
    · exact ⟨HR.cell (HR.like hHeld.2.2.2 rfl rfl rfl rfl) (b := b1) (cs := #[.int .u64 X, .int .u64 Y, .int .u64 Z]) (t := 113) (by simp) 0 rfl, HR.cell (HR.like hHeld.2.2.2 rfl rfl rfl rfl) (b := b1) (cs := #[.int .u64 X, .int .u64 Y, .int .u64 Z]) (t := 113) (by simp) 1 rfl, HR.cell (HR.like hHeld.2.2.2 rfl rfl rfl rfl) (b := b1) (cs := #[.int .u64 X, .int .u64 Y, .int .u64 Z]) (t := 113) (by simp) 2 rfl, (HR.like hHeld.2.2.2 rfl rfl rfl rfl)⟩
    clear hK K
    try simp only [Act.put, List.setIfInBounds_toArray, List.set_cons_zero, List.set_cons_succ]
    refine tk 15 hHeld ?_
    have rc0 : ∀ n, (w2.drewN n).cell? ⟨b2, 0, none⟩ = some (.int .u64 0) := fun n => (R2.out.drewN n).cell 0 rfl
    have rc1 : ∀ n, (w2.drewN n).cell? ⟨b2, 1, none⟩ = some (.int .u64 0) := fun n => (R2.out.drewN n).cell 1 rfl
    have rc2 : ∀ n, (w2.drewN n).cell? ⟨b2, 2, none⟩ = some (.int .u64 0) := fun n => (R2.out.drewN n).cell 2 rfl
    have rf0 : ∀ n, (w2.drewN n).frozen? ⟨b2, 0, none⟩ = false := fun n => (R2.out.drewN n).free 0
    have rf1 : ∀ n, (w2.drewN n).frozen? ⟨b2, 1, none⟩ = false := fun n => (R2.out.drewN n).free 1
    have rf2 : ∀ n, (w2.drewN n).frozen? ⟨b2, 2, none⟩ = false := fun n => (R2.out.drewN n).free 2
    refine stepH 16 (by kernel_rfl) rfl (by rfl) (fun K hK => ?_)
    go_simp
    refine hK.out _ _ ?_ (fun hHeld => ?_)
    · exact ⟨HR.cell (HR.other (HR.other (HR.other (H0.out.drewN _) (by simp; have := hbs.out; omega) (by have := hbs.out; omega)) (by simp; have := hbs.out; omega) (by have := hbs.out; omega)) (by simp; have := hbs.out; omega) (by have := hbs.out; omega)) (b := b1) (cs := #[.int .u64 X, .int .u64 Y, .int .u64 Z]) (t := 113) (by simp) 0 rfl, HR.cell (HR.other (HR.other (HR.other (H0.out.drewN _) (by simp; have := hbs.out; omega) (by have := hbs.out; omega)) (by simp; have := hbs.out; omega) (by have := hbs.out; omega)) (by simp; have := hbs.out; omega) (by have := hbs.out; omega)) (b := b1) (cs := #[.int .u64 X, .int .u64 Y, .int .u64 Z]) (t := 113) (by simp) 1 rfl, HR.cell (HR.other (HR.other (HR.other (H0.out.drewN _) (by simp; have := hbs.out; omega) (by have := hbs.out; omega)) (by simp; have := hbs.out; omega) (by have := hbs.out; omega)) (by simp; have := hbs.out; omega) (by have := hbs.out; omega)) (b := b1) (cs := #[.int .u64 X, .int .u64 Y, .int .u64 Z]) (t := 113) (by simp) 2 rfl, (HR.other (HR.other (HR.other (H0.out.drewN _) (by simp; have := hbs.out; omega) (by have := hbs.out; omega)) (by simp; have := hbs.out; omega) (by have := hbs.out; omega)) (by simp; have := hbs.out; omega) (by have := hbs.out; omega))⟩
    clear hK K
    try simp only [Act.put, List.setIfInBounds_toArray, List.set_cons_zero, List.set_cons_succ]
    refine wpAnyH_done (by kernel_rfl) (NoPanic.normal ?_) _
    have hL := Lib.hid hHeld.2.2.2.2
    clear hHeld rc0 rc1 rc2 rf0 rf1 rf2
    have s0 : ∀ n v0 v1 v2, ((((w2.drewN n).setCell ⟨b2, 0, none⟩ v0).setCell ⟨b2, 1, none⟩ v1).setCell ⟨b2, 2, none⟩ v2).cell? ⟨b2, 0, none⟩ = some v0 := fun n v0 v1 v2 => (R2.out.drewN n).set3.cell 0 rfl
    have s1 : ∀ n v0 v1 v2, ((((w2.drewN n).setCell ⟨b2, 0, none⟩ v0).setCell ⟨b2, 1, none⟩ v1).setCell ⟨b2, 2, none⟩ v2).cell? ⟨b2, 1, none⟩ = some v1 := fun n v0 v1 v2 => (R2.out.drewN n).set3.cell 1 rfl
    have s2 : ∀ n v0 v1 v2, ((((w2.drewN n).setCell ⟨b2, 0, none⟩ v0).setCell ⟨b2, 1, none⟩ v1).setCell ⟨b2, 2, none⟩ v2).cell? ⟨b2, 2, none⟩ = some v2 := fun n v0 v1 v2 => (R2.out.drewN n).set3.cell 2 rfl
    go_wp2_with fail
    refine bodyPost_ret (v := scV _ _ _) (by simp [results, Try.results75, go_sem, s0, s1, s2]; try exact ⟨rfl, rfl, rfl⟩) rfl ⟨by rw [hm.out], hL.out⟩
  · have r0 : (((h : Nat) : Int) == 0) = false := beq_eq_false_iff_ne.2 (by omega)
    replace he := Lib.hid he
    replace h0 := Lib.hid h0
    go_enter Try.func75, Try.ntmps75
    go_upto_region 1 with fail
    have hR1 := (((HR.refl w).new #[.int .u64 X, .int .u64 Y, .int .u64 Z] 113).new #[.bool false, .int .u64 BX, .int .u64 BY] 31).new #[.int .u64 0, .int .u64 0, .int .u64 0] 113
    simp only [World.size_alloc] at hR1
    have hbw := hR1.lt (b := w.heap.size + 1 + 1) (cs := #[.int .u64 0, .int .u64 0, .int .u64 0]) (t := 113) (by simp)
    generalize ((w.alloc (.cells #[.int .u64 X, .int .u64 Y, .int .u64 Z] 113)).alloc (.cells #[.bool false, .int .u64 BX, .int .u64 BY] 31)).alloc (.cells #[.int .u64 0, .int .u64 0, .int .u64 0] 113) = w2 at hR1 hbw ⊢
    generalize hb2 : w.heap.size + 1 + 1 = b2 at hR1 hbw ⊢
    generalize hb4 : w.heap.size + 1 = b4 at hR1 ⊢
    generalize hb1 : w.heap.size = b1 at hR1 ⊢
    have hbs : Hid (w.heap.size ≤ b1 ∧ b1 < b2 ∧ b1 < b4 ∧ b4 < b2) := Lib.hid (by omega)
    have R2 := Lib.hid (hR1.row (b := b2) (cs := #[.int .u64 0, .int .u64 0, .int .u64 0]) (t := 113) (by simp))
    have H0 : Hid (HR w w2 [(b4, #[.bool false, .int .u64 BX, .int .u64 BY], 31), (b1, #[.int .u64 X, .int .u64 Y, .int .u64 Z], 113)]) := Lib.hid hR1.tail
    clear hb1 hb2 hb4 hR1 hbw
    have c_b1_0 := H0.out.cell (b := b1) (cs := #[.int .u64 X, .int .u64 Y, .int .u64 Z]) (t := 113) (by simp) 0 rfl
    have c_b1_1 := H0.out.cell (b := b1) (cs := #[.int .u64 X, .int .u64 Y, .int .u64 Z]) (t := 113) (by simp) 1 rfl
    have c_b1_2 := H0.out.cell (b := b1) (cs := #[.int .u64 X, .int .u64 Y, .int .u64 Z]) (t := 113) (by simp) 2 rfl
    have c_b4_0 := H0.out.cell (b := b4) (cs := #[.bool false, .int .u64 BX, .int .u64 BY]) (t := 31) (by simp) 0 rfl
    have c_b4_1 := H0.out.cell (b := b4) (cs := #[.bool false, .int .u64 BX, .int .u64 BY]) (t := 31) (by simp) 1 rfl
    have c_b4_2 := H0.out.cell (b := b4) (cs := #[.bool false, .int .u64 BX, .int .u64 BY]) (t := 31) (by simp) 2 rfl
    go_wp2_with (go_at_call 72; refine (cMul _ _ (by omega) (by omega) _).mono ?_; rintro e w' ⟨rfl, n, rfl⟩)
    go_quiet ((first | (go_at_call 72; first | (refine Calls.quiet_of (cMul _ _ ?_ ?_ _) <;> omega) | (refine quiet_add (cMul _ _ ?_ ?_ _) <;> omega)) | (go_at_call 92; first | (refine Calls.quiet_of (cSub _ _ ?_ ?_ _) <;> omega) | (refine quiet_add (cSub _ _ ?_ ?_ _) <;> omega))))
    go_wp2_with fail
    go_quiet ((first | (go_at_call 72; first | (refine Calls.quiet_of (cMul _ _ ?_ ?_ _) <;> omega) | (refine quiet_add (cMul _ _ ?_ ?_ _) <;> omega)) | (go_at_call 92; first | (refine Calls.quiet_of (cSub _ _ ?_ ?_ _) <;> omega) | (refine quiet_add (cSub _ _ ?_ ?_ _) <;> omega))))
    go_wp2_with (go_at_call 72; refine (cMul _ _ (by omega) (by omega) _).mono ?_; rintro e w' ⟨rfl, n, rfl⟩)
    go_quiet ((first | (go_at_call 72; first | (refine Calls.quiet_of (cMul _ _ ?_ ?_ _) <;> omega) | (refine quiet_add (cMul _ _ ?_ ?_ _) <;> omega))))
    go_upto_region 11 with (first | (go_at_call 72; refine (cMul _ _ (by omega) (by omega) _).mono ?_; rintro e w' ⟨rfl, n, rfl⟩) | (go_at_call 92; refine (cSub _ _ (by omega) (by omega) _).mono ?_; rintro e w' ⟨rfl, n, rfl⟩) | (go_at_call 68; refine (PAdd _ _ (by omega) (by omega) _).mono ?_; rintro e w' ⟨rfl, n, rfl⟩))
    clear c_b1_0 c_b1_1 c_b1_2 c_b4_0 c_b4_1 c_b4_2
    refine wp_region_noPanic ?_
    refine wp_region_held_drew (S := fun wq => wq.cell? ⟨b1, 0, none⟩ = some (.int .u64 X) ∧ wq.cell? ⟨b1, 1, none⟩ = some (.int .u64 Y) ∧ wq.cell? ⟨b1, 2, none⟩ = some (.int .u64 Z) ∧ HR w wq [(b4, #[.bool false, .int .u64 BX, .int .u64 BY], 31), (b1, #[.int .u64 X, .int .u64 Y, .int .u64 Z], 113)]) (by kernel_rfl) ?_ (fun hHeld => ?_)
    · exact ⟨HR.cell (HR.like H0.out rfl rfl rfl rfl) (b := b1) (cs := #[.int .u64 X, .int .u64 Y, .int .u64 Z]) (t := 113) (by simp) 0 rfl, HR.cell (HR.like H0.out rfl rfl rfl rfl) (b := b1) (cs := #[.int .u64 X, .int .u64 Y, .int .u64 Z]) (t := 113) (by simp) 1 rfl, HR.cell (HR.like H0.out rfl rfl rfl rfl) (b := b1) (cs := #[.int .u64 X, .int .u64 Y, .int .u64 Z]) (t := 113) (by simp) 2 rfl, (HR.like H0.out rfl rfl rfl rfl)⟩
    refine tk 0 hHeld ?_; refine tk 1 hHeld ?_; refine tk 2 hHeld ?_; refine tk 3 hHeld ?_; refine tk 6 hHeld ?_; refine tk 7 hHeld ?_; refine tk 8 hHeld ?_; refine tk 11 hHeld ?_; refine tk 12 hHeld ?_; refine tk 13 hHeld ?_
    refine stepH 4 (by kernel_rfl) rfl (by rfl) (fun K hK => ?_)
    go_simp
    refine (cSub _ _ (by omega) (by omega) _).mono ?_
    rintro e wq' ⟨rfl, nq1, rfl⟩
    refine hK.out _ _ ?_ (fun hHeld => ?_)
    · exact ⟨HR.cell (HR.like hHeld.2.2.2 rfl rfl rfl rfl) (b := b1) (cs := #[.int .u64 X, .int .u64 Y, .int .u64 Z]) (t := 113) (by simp) 0 rfl, HR.cell (HR.like hHeld.2.2.2 rfl rfl rfl rfl) (b := b1) (cs := #[.int .u64 X, .int .u64 Y, .int .u64 Z]) (t := 113) (by simp) 1 rfl, HR.cell (HR.like hHeld.2.2.2 rfl rfl rfl rfl) (b := b1) (cs := #[.int .u64 X, .int .u64 Y, .int .u64 Z]) (t := 113) (by simp) 2 rfl, (HR.like hHeld.2.2.2 rfl rfl rfl rfl)⟩
    clear hK K
    try simp only [Act.put, List.setIfInBounds_toArray, List.set_cons_zero, List.set_cons_succ]
    refine stepH 5 (by kernel_rfl) rfl (by rfl) (fun K hK => ?_)
    go_simp
    refine (cMul _ _ (by omega) (by omega) _).mono ?_
    rintro e wq' ⟨rfl, nq2, rfl⟩
    refine hK.out _ _ ?_ (fun hHeld => ?_)
    · exact ⟨HR.cell (HR.like hHeld.2.2.2 rfl rfl rfl rfl) (b := b1) (cs := #[.int .u64 X, .int .u64 Y, .int .u64 Z]) (t := 113) (by simp) 0 rfl, HR.cell (HR.like hHeld.2.2.2 rfl rfl rfl rfl) (b := b1) (cs := #[.int .u64 X, .int .u64 Y, .int .u64 Z]) (t := 113) (by simp) 1 rfl, HR.cell (HR.like hHeld.2.2.2 rfl rfl rfl rfl) (b := b1) (cs := #[.int .u64 X, .int .u64 Y, .int .u64 Z]) (t := 113) (by simp) 2 rfl, (HR.like hHeld.2.2.2 rfl rfl rfl rfl)⟩
    clear hK K
    try simp only [Act.put, List.setIfInBounds_toArray, List.set_cons_zero, List.set_cons_succ]
    refine stepH 9 (by kernel_rfl) rfl (by rfl) (fun K hK => ?_)
    go_simp
    refine (cMul _ _ (by omega) (by omega) _).mono ?_
    rintro e wq' ⟨rfl, nq3, rfl⟩
    refine hK.out _ _ ?_ (fun hHeld => ?_)
    · exact ⟨HR.cell (HR.like hHeld.2.2.2 rfl rfl rfl rfl) (b := b1) (cs := #[.int .u64 X, .int .u64 Y, .int .u64 Z]) (t := 113) (by simp) 0 rfl, HR.cell (HR.like hHeld.2.2.2 rfl rfl rfl rfl) (b := b1) (cs := #[.int .u64 X, .int .u64 Y, .int .u64 Z]) (t := 113) (by simp) 1 rfl, HR.cell (HR.like hHeld.2.2.2 rfl rfl rfl rfl) (b := b1) (cs := #[.int .u64 X, .int .u64 Y, .int .u64 Z]) (t := 113) (by simp) 2 rfl, (HR.like hHeld.2.2.2 rfl rfl rfl rfl)⟩
    clear hK K
    try simp only [Act.put, List.setIfInBounds_toArray, List.set_cons_zero, List.set_cons_succ]
    refine stepH 10 (by kernel_rfl) rfl (by rfl) (fun K hK => ?_)
    go_simp
    refine (cSub _ _ (by omega) (by omega) _).mono ?_
    rintro e wq' ⟨rfl, nq4, rfl⟩
    refine hK.out _ _ ?_ (fun hHeld => ?_)
    · exact ⟨HR.cell (HR.like hHeld.2.2.2 rfl rfl rfl rfl) (b := b1) (cs := #[.int .u64 X, .int .u64 Y, .int .u64 Z]) (t := 113) (by simp) 0 rfl, HR.cell (HR.like hHeld.2.2.2 rfl rfl rfl rfl) (b := b1) (cs := #[.int .u64 X, .int .u64 Y, .int .u64 Z]) (t := 113) (by simp) 1 rfl, HR.cell (HR.like hHeld.2.2.2 rfl rfl rfl rfl) (b := b1) (cs := #[.int .u64 X, .int .u64 Y, .int .u64 Z]) (t := 113) (by simp) 2 rfl, (HR.like hHeld.2.2.2 rfl rfl rfl rfl)⟩
    clear hK K
    try simp only [Act.put, List.setIfInBounds_toArray, List.set_cons_zero, List.set_cons_succ]
    refine stepH 14 (by kernel_rfl) rfl (by rfl) (fun K hK => ?_)
    go_simp
    refine (cMul _ _ (by omega) (by omega) _).mono ?_
    rintro e wq' ⟨rfl, nq5, rfl⟩
    refine hK.out _ _ ?_ (fun hHeld => ?_)
    · exact ⟨HR.cell (HR.like hHeld.2.2.2 rfl rfl rfl rfl) (b := b1) (cs := #[.int .u64 X, .int .u64 Y, .int .u64 Z]) (t := 113) (by simp) 0 rfl, HR.cell (HR.like hHeld.2.2.2 rfl rfl rfl rfl) (b := b1) (cs := #[.int .u64 X, .int .u64 Y, .int .u64 Z]) (t := 113) (by simp) 1 rfl, HR.cell (HR.like hHeld.2.2.2 rfl rfl rfl rfl) (b := b1) (cs := #[.int .u64 X, .int .u64 Y, .int .u64 Z]) (t := 113) (by simp) 2 rfl, (HR.like hHeld.2.2.2 rfl rfl rfl rfl)⟩
    clear hK K
    try simp only [Act.put, List.setIfInBounds_toArray, List.set_cons_zero, List.set_cons_succ]
    refine tk 15 hHeld ?_
    have rc0 : ∀ n, (w2.drewN n).cell? ⟨b2, 0, none⟩ = some (.int .u64 0) := fun n => (R2.out.drewN n).cell 0 rfl
    have rc1 : ∀ n, (w2.drewN n).cell? ⟨b2, 1, none⟩ = some (.int .u64 0) := fun n => (R2.out.drewN n).cell 1 rfl
    have rc2 : ∀ n, (w2.drewN n).cell? ⟨b2, 2, none⟩ = some (.int .u64 0) := fun n => (R2.out.drewN n).cell 2 rfl
    have rf0 : ∀ n, (w2.drewN n).frozen? ⟨b2, 0, none⟩ = false := fun n => (R2.out.drewN n).free 0
    have rf1 : ∀ n, (w2.drewN n).frozen? ⟨b2, 1, none⟩ = false := fun n => (R2.out.drewN n).free 1
    have rf2 : ∀ n, (w2.drewN n).frozen? ⟨b2, 2, none⟩ = false := fun n => (R2.out.drewN n).free 2
    refine stepH 16 (by kernel_rfl) rfl (by rfl) (fun K hK => ?_)
    go_simp
    refine hK.out _ _ ?_ (fun hHeld => ?_)
    · exact ⟨HR.cell (HR.other (HR.other (HR.other (H0.out.drewN _) (by simp; have := hbs.out; omega) (by have := hbs.out; omega)) (by simp; have := hbs.out; omega) (by have := hbs.out; omega)) (by simp; have := hbs.out; omega) (by have := hbs.out; omega)) (b := b1) (cs := #[.int .u64 X, .int .u64 Y, .int .u64 Z]) (t := 113) (by simp) 0 rfl, HR.cell (HR.other (HR.other (HR.other (H0.out.drewN _) (by simp; have := hbs.out; omega) (by have := hbs.out; omega)) (by simp; have := hbs.out; omega) (by have := hbs.out; omega)) (by simp; have := hbs.out; omega) (by have := hbs.out; omega)) (b := b1) (cs := #[.int .u64 X, .int .u64 Y, .int .u64 Z]) (t := 113) (by simp) 1 rfl, HR.cell (HR.other (HR.other (HR.other (H0.out.drewN _) (by simp; have := hbs.out; omega) (by have := hbs.out; omega)) (by simp; have := hbs.out; omega) (by have := hbs.out; omega)) (by simp; have := hbs.out; omega) (by have := hbs.out; omega)) (b := b1) (cs := #[.int .u64 X, .int .u64 Y, .int .u64 Z]) (t := 113) (by simp) 2 rfl, (HR.other (HR.other (HR.other (H0.out.drewN _) (by simp; have := hbs.out; omega) (by have := hbs.out; omega)) (by simp; have := hbs.out; omega) (by have := hbs.out; omega)) (by simp; have := hbs.out; omega) (by have := hbs.out; omega))⟩
    clear hK K
    try simp only [Act.put, List.setIfInBounds_toArray, List.set_cons_zero, List.set_cons_succ]
    refine wpAnyH_done (by kernel_rfl) (NoPanic.normal ?_) _
    have hL := Lib.hid hHeld.2.2.2.2
    clear hHeld rc0 rc1 rc2 rf0 rf1 rf2
    have s0 : ∀ n v0 v1 v2, ((((w2.drewN n).setCell ⟨b2, 0, none⟩ v0).setCell ⟨b2, 1, none⟩ v1).setCell ⟨b2, 2, none⟩ v2).cell? ⟨b2, 0, none⟩ = some v0 := fun n v0 v1 v2 => (R2.out.drewN n).set3.cell 0 rfl
    have s1 : ∀ n v0 v1 v2, ((((w2.drewN n).setCell ⟨b2, 0, none⟩ v0).setCell ⟨b2, 1, none⟩ v1).setCell ⟨b2, 2, none⟩ v2).cell? ⟨b2, 1, none⟩ = some v1 := fun n v0 v1 v2 => (R2.out.drewN n).set3.cell 1 rfl
    have s2 : ∀ n v0 v1 v2, ((((w2.drewN n).setCell ⟨b2, 0, none⟩ v0).setCell ⟨b2, 1, none⟩ v1).setCell ⟨b2, 2, none⟩ v2).cell? ⟨b2, 2, none⟩ = some v2 := fun n v0 v1 v2 => (R2.out.drewN n).set3.cell 2 rfl
    go_wp2_with fail
    refine bodyPost_ret (v := scV _ _ _) (by simp [results, Try.results75, go_sem, s0, s1, s2]; try exact ⟨rfl, rfl, rfl⟩) rfl ⟨by rw [hm.out], hL.out⟩
set_option maxRecDepth 8000 in
set_option maxHeartbeats 4000000 in
theorem cMore (X Y Z BX BY : Int) (hX : 0 ≤ X) (hY : 0 ≤ Y) (hZ : 0 ≤ Z) (hBX : 0 ≤ BX) (hBY : 0 ≤ BY) (w : World) :
    Calls Try.prog 75 #[scV X Y Z, ptV false BX BY] w fun e w' => e = .returned (scV (((Obol.moC (X.toNat, Y.toNat, Z.toNat) (BX.toNat, BY.toNat)).1 : Nat) : Int) (((Obol.moC (X.toNat, Y.toNat, Z.toNat) (BX.toNat, BY.toNat)).2.1 : Nat) : Int) (((Obol.moC (X.toNat, Y.toNat, Z.toNat) (BX.toNat, BY.toNat)).2.2 : Nat) : Int)) ∧ Below w.heap.size w w' := by
  by_cases hz : Z = 0
  · exact cMore0 X Y Z BX BY hX hY hZ hBX hBY hz w
  · by_cases he : ¬ (Obol.subP (Obol.mulP BX.toNat (Obol.mulP Z.toNat Z.toNat)) X.toNat = 0 ∧ Obol.subP (Obol.mulP BY.toNat (Obol.mulP (Obol.mulP Z.toNat Z.toNat) Z.toNat)) Y.toNat = 0)
    · exact cMore2 X Y Z BX BY hX hY hZ hBX hBY hz he w
    · exact cMore1 X Y Z BX BY hX hY hZ hBX hBY hz (Classical.not_not.1 he) w

end Go.Proofs.Ytkfimfjjmdjbdaa
