import Derived.Test.YtiffendfojhapaaDoorZWsch
import Derived.Test.YtiffendfojhapaaDoorMB
import Derived.Test.YtiffendfojhapaaDoorZWrsum
import Derived.Test.YtiffendfojhapaaDoorMC
set_option linter.unusedVariables false
set_option linter.unusedSimpArgs false
/- Walks: package schnorr: signatures, turned keys; the question by the document. -/
namespace Obol
noncomputable def quesP (A P : Pt) (M : List Nat) : Nat := quesN A.n P.n M
noncomputable def sigZ (n q k : Nat) : Nat := addM 72057593894066549 n (mulM 72057593894066549 q k)
end Obol
namespace Go.Proofs.YtiffendfojhapaaDoor
open Go.RowKit

theorem coordsN (q : Obol.Pt) : ∃ x y : Int, 0 ≤ x ∧ 0 ≤ y ∧ x < 288230376287764481 ∧ y < 288230376287764481 ∧ ptV q = edV x y ∧ (x.toNat, y.toNat) = q.n := by
  obtain ⟨x, y, h1, h2, h3, h4, h5, h6⟩ := coords q
  refine ⟨x, y, h1, h2, h3, h4, h5, ?_⟩
  simp only [Value.agg.injEq, Array.mk.injEq, List.cons.injEq, Value.int.injEq, true_and, and_true] at h5
  show _ = (q.x.val, q.y.val)
  rw [Prod.mk.injEq]
  omega
theorem litSn : (72057593894066549 : Int).toNat = 72057593894066549 := rfl
abbrev sigV (p : Obol.Pt) (z : Int) : Value := .agg #[.int .u64 ((p.x.val : Nat) : Int), .int .u64 ((p.y.val : Nat) : Int), .int .u64 z]
theorem sig_of {p : Obol.Pt} {x y : Int} (h : ptV p = edV x y) (z : Int) : sigV p z = .agg #[.int .u64 x, .int .u64 y, .int .u64 z] := by
  simp only [Value.agg.injEq, Array.mk.injEq, List.cons.injEq, Value.int.injEq, true_and, and_true] at h ⊢
  exact h

set_option maxRecDepth 8000 in
set_option maxHeartbeats 2000000 in
theorem sSignY (k n : Int) (hk1 : 1 ≤ k) (hk2 : k < 72057593894066549) (hn1 : 1 ≤ n) (hn2 : n < 72057593894066549) (ao : Option Addr) (len cap : Nat) (M : List Nat) (HM : B8 len M) (hl : len ≤ 140737488351232) (w : World) (hS0 : SlI w.heap.size w ao cap M) (hG0 : RowsAt w) :
    Calls Tryd.prog 25 #[.int .u64 k, .int .u64 n, .slice ao len cap] w fun e w' => e = .returned (.tuple #[sigV (Obol.Pnt.smul n.toNat Obol.G) ((Obol.sigZ n.toNat (Obol.quesP (Obol.Pnt.smul n.toNat Obol.G) (Obol.Pnt.smul k.toNat Obol.G) M) k.toNat : Nat) : Int), .nilIface]) ∧ Below w.heap.size w w' := by
  have hcA := fun w => sPoint n (by omega) (by omega) w
  have hcP := fun w => sPoint k (by omega) (by omega) w
  generalize hA : Obol.Pnt.smul n.toNat Obol.G = A at hcA ⊢
  generalize hP : Obol.Pnt.smul k.toNat Obol.G = P at hcP ⊢
  obtain ⟨ax, ay, ax0, ay0, ax1, ay1, hvA, hnA⟩ := coordsN A
  obtain ⟨px, py, px0, py0, px1, py1, hvP, hnP⟩ := coordsN P
  rw [hvA] at hcA
  rw [hvP] at hcP
  have hcQ := Lib.hid (fun W (hw : Below w.heap.size w W) gb hR => sQues ao len cap M HM hl gb ax ay px py ax0 ay0 px0 py0 (by rw [hnA]; exact Obol.pt_isN A) (by rw [hnP]; exact Obol.pt_isN P) W (hS0.at hw) hR (hG0.below hw))
  rw [hnA, hnP] at hcQ
  change Hid (∀ W, Below w.heap.size w W → ∀ gb, _ → Calls _ _ _ W fun e w' => e = .returned (.tuple #[.int .u64 ((Obol.quesP A P M : Nat) : Int), .nilIface]) ∧ _) at hcQ
  generalize hq0 : Obol.quesP A P M = q0 at hcQ ⊢
  obtain ⟨q, hq⟩ : ∃ q : Int, ((q0 : Nat) : Int) = q := ⟨_, rfl⟩
  have q0' : 0 ≤ q := by omega
  rw [hq] at hcQ
  have hcM := fun w => mMul 72057593894066549 q k (by omega) (by omega) q0' (by omega) w
  rw [litSn, show q.toNat = q0 by omega] at hcM
  obtain ⟨m, hm⟩ : ∃ m : Int, ((Obol.mulM 72057593894066549 q0 k.toNat : Nat) : Int) = m := ⟨_, rfl⟩
  rw [hm] at hcM
  have hcZ := fun w => mAdd 72057593894066549 n m (by omega) (by omega) (by omega) (by omega) w
  rw [litSn, show m.toNat = Obol.mulM 72057593894066549 q0 k.toNat by omega] at hcZ
  change ∀ w, Calls _ _ _ w fun e w' => e = .returned (.int .u64 ((Obol.sigZ n.toNat q0 k.toNat : Nat) : Int)) ∧ _ at hcZ
  obtain ⟨z, hz⟩ : ∃ z : Int, ((Obol.sigZ n.toNat q0 k.toNat : Nat) : Int) = z := ⟨_, rfl⟩
  rw [hz] at hcZ ⊢
  have HV := Lib.hid hvA
  replace hcA := Lib.hid hcA
  replace hcP := Lib.hid hcP
  replace hcM := Lib.hid hcM
  replace hcZ := Lib.hid hcZ
  clear hvA hvP hnA hnP hq0 hq hm hz hA hP HM hS0 hG0
  go_enter Tryd.func25, Tryd.ntmps25
  go_wp2_with (go_at_call 47; refine (sKeyY _ (by assumption) (by assumption) _).mono ?_; rintro e w1 ⟨rfl, rfl⟩)
  have H0 := Lib.hid ((HR.refl w).new #[.int .u64 0, .int .u64 0, .int .u64 0] 44)
  generalize w.alloc (.cells #[.int .u64 0, .int .u64 0, .int .u64 0] 44) = w2 at H0 ⊢
  have hbw : Hid (w.heap.size ≤ w.heap.size) := Lib.hid (Nat.le_refl _)
  generalize hb6 : w.heap.size = b6 at H0 hbw ⊢
  replace hb6 := Lib.hid hb6
  refine (hcA.out _).mono ?_
  rintro e w3 ⟨rfl, hb⟩
  have H1 := Lib.hid (H0.out.next hb)
  clear hb H0
  go_wp2_with fail
  have H2 := Lib.hid (H1.out.new #[.int .u64 ax, .int .u64 ay] 37)
  have hne : b6 < w3.heap.size := H1.out.lt (b := b6) (cs := #[.int .u64 0, .int .u64 0, .int .u64 0]) (t := 44) (by simp)
  clear H1
  generalize w3.alloc (.cells #[.int .u64 ax, .int .u64 ay] 37) = w4 at H2 ⊢
  generalize w3.heap.size = b8 at H2 hne ⊢
  refine wp_region_noPanic ?_
  refine wp_region_held_drew (S := fun wq => wq.cell? ⟨b8, 0, none⟩ = some (.int .u64 ax) ∧ wq.cell? ⟨b8, 1, none⟩ = some (.int .u64 ay) ∧ HR w wq [(b8, #[.int .u64 ax, .int .u64 ay], 37), (b6, #[.int .u64 0, .int .u64 0, .int .u64 0], 44)]) (by kernel_rfl) ?_ (fun hHeld => ?_)
  · have hq0 := HR.drew H2.out
    exact ⟨HR.cell hq0 (b := b8) (cs := #[.int .u64 ax, .int .u64 ay]) (t := 37) (by simp) 0 rfl, HR.cell hq0 (b := b8) (cs := #[.int .u64 ax, .int .u64 ay]) (t := 37) (by simp) 1 rfl, hq0⟩
  refine takeH 0 (fun _ _ _ _ _ h => h) (by kernel_rfl) hHeld rfl (by kernel_rfl) (by rfl) (v := ?_) ?_ ?_
  rotate_left
  ((intro wz hz; (try dsimp only at hz); go_simp) <;> with_reducible rfl)
  try simp only [Act.put, List.setIfInBounds_toArray, List.set_cons_zero, List.set_cons_succ]
  refine takeH 1 (fun _ _ _ _ _ h => h) (by kernel_rfl) hHeld rfl (by kernel_rfl) (by rfl) (v := ?_) ?_ ?_
  rotate_left
  ((intro wz hz; (try dsimp only at hz); go_simp) <;> with_reducible rfl)
  try simp only [Act.put, List.setIfInBounds_toArray, List.set_cons_zero, List.set_cons_succ]
  refine takeH 2 (fun _ _ _ _ _ h => h) (by kernel_rfl) hHeld rfl (by kernel_rfl) (by rfl) (v := ?_) ?_ ?_
  rotate_left
  ((intro wz hz; (try dsimp only at hz); go_simp) <;> with_reducible rfl)
  try simp only [Act.put, List.setIfInBounds_toArray, List.set_cons_zero, List.set_cons_succ]
  refine stepH 3 (by kernel_rfl) rfl (by rfl) (fun K hK => ?_)
  go_simp
  refine (hcP.out _).mono ?_
  rintro e wc1 ⟨rfl, hbc1⟩
  have hrc1 := HR.next hHeld.2.2 hbc1
  refine hK.out _ _ ?_ (fun hHeld => ?_)
  · exact ⟨HR.cell hrc1 (b := b8) (cs := #[.int .u64 ax, .int .u64 ay]) (t := 37) (by simp) 0 rfl, HR.cell hrc1 (b := b8) (cs := #[.int .u64 ax, .int .u64 ay]) (t := 37) (by simp) 1 rfl, hrc1⟩
  clear hK K
  try simp only [Act.put, List.setIfInBounds_toArray, List.set_cons_zero, List.set_cons_succ]
  refine stepH 4 (by kernel_rfl) rfl (by rfl) (fun K hK => ?_)
  go_simp
  have hrn := HR.new hrc1 #[.int .u64 ax, .int .u64 ay, .int .u64 px, .int .u64 py] 37
  have hrow := hrn.row (List.mem_cons_self ..)
  have hrc2 := hrn.tail
  refine hK.out _ _ ?_ (fun hHeld => ?_)
  · exact ⟨HR.cell hrc2 (b := b8) (cs := #[.int .u64 ax, .int .u64 ay]) (t := 37) (by simp) 0 rfl, HR.cell hrc2 (b := b8) (cs := #[.int .u64 ax, .int .u64 ay]) (t := 37) (by simp) 1 rfl, hrc2⟩
  clear hK K
  try simp only [Act.put, List.setIfInBounds_toArray, List.set_cons_zero, List.set_cons_succ]
  refine stepH 5 (by kernel_rfl) rfl (by rfl) (fun K hK => ?_)
  go_simp
  refine (hcQ.out _ hrc2.2 _ hrow).mono ?_
  rintro e wc2 ⟨rfl, hbc2⟩
  have hrc2 := HR.next hHeld.2.2 hbc2
  refine hK.out _ _ ?_ (fun hHeld => ?_)
  · exact ⟨HR.cell hrc2 (b := b8) (cs := #[.int .u64 ax, .int .u64 ay]) (t := 37) (by simp) 0 rfl, HR.cell hrc2 (b := b8) (cs := #[.int .u64 ax, .int .u64 ay]) (t := 37) (by simp) 1 rfl, hrc2⟩
  clear hK K
  try simp only [Act.put, List.setIfInBounds_toArray, List.set_cons_zero, List.set_cons_succ]
  refine takeH 6 (fun _ _ _ _ _ h => h) (by kernel_rfl) hHeld rfl (by kernel_rfl) (by rfl) (v := ?_) ?_ ?_
  rotate_left
  ((intro wz hz; (try dsimp only at hz); go_simp) <;> with_reducible rfl)
  try simp only [Act.put, List.setIfInBounds_toArray, List.set_cons_zero, List.set_cons_succ]
  refine takeH 7 (fun _ _ _ _ _ h => h) (by kernel_rfl) hHeld rfl (by kernel_rfl) (by rfl) (v := ?_) ?_ ?_
  rotate_left
  ((intro wz hz; (try dsimp only at hz); go_simp) <;> with_reducible rfl)
  try simp only [Act.put, List.setIfInBounds_toArray, List.set_cons_zero, List.set_cons_succ]
  refine takeH 8 (fun _ _ _ _ _ h => h) (by kernel_rfl) hHeld rfl (by kernel_rfl) (by rfl) (v := ?_) ?_ ?_
  rotate_left
  ((intro wz hz; (try dsimp only at hz); go_simp) <;> with_reducible rfl)
  try simp only [Act.put, List.setIfInBounds_toArray, List.set_cons_zero, List.set_cons_succ]
  refine takeH 9 (fun _ _ _ _ _ h => h) (by kernel_rfl) hHeld rfl (by kernel_rfl) (by rfl) (v := ?_) ?_ ?_
  rotate_left
  ((intro wz hz; (try dsimp only at hz); go_simp) <;> with_reducible rfl)
  try simp only [Act.put, List.setIfInBounds_toArray, List.set_cons_zero, List.set_cons_succ]
  refine takeH 10 (fun _ _ _ _ _ h => h) (by kernel_rfl) hHeld rfl (by kernel_rfl) (by rfl) (v := ?_) ?_ ?_
  rotate_left
  ((intro wz hz; (try dsimp only at hz); go_simp) <;> with_reducible rfl)
  try simp only [Act.put, List.setIfInBounds_toArray, List.set_cons_zero, List.set_cons_succ]
  refine wpAnyH_done (by kernel_rfl) (NoPanic.normal ?_) _
  have H3 := Lib.hid (hHeld.2.2)
  clear hHeld
  go_wp2_with fail
  have H4 := H3
  clear H3
  have r6 := H4.out.row (b := b6) (cs := #[.int .u64 0, .int .u64 0, .int .u64 0]) (t := 44) (by simp)
  have s0 := r6.cell 0 rfl
  have s1 := r6.cell 1 rfl
  have s2 := r6.cell 2 rfl
  have g0 := r6.free 0
  have g1 := r6.free 1
  have g2 := r6.free 2
  replace r6 := Lib.hid r6
  have H4t := Lib.hid (HR.sub (qs := [(b8, #[.int .u64 ax, .int .u64 ay], 37)]) H4.out (by simp))
  refine wp_region_noPanic ?_
  refine wp_region_held_drew (S := fun wq => wq.cell? ⟨b8, 0, none⟩ = some (.int .u64 ax) ∧ wq.cell? ⟨b8, 1, none⟩ = some (.int .u64 ay) ∧ HR w wq [(b8, #[.int .u64 ax, .int .u64 ay], 37)]) (by kernel_rfl) ?_ (fun hHeld => ?_)
  · have hq0 := HR.drew H4t.out
    exact ⟨HR.cell hq0 (b := b8) (cs := #[.int .u64 ax, .int .u64 ay]) (t := 37) (by simp) 0 rfl, HR.cell hq0 (b := b8) (cs := #[.int .u64 ax, .int .u64 ay]) (t := 37) (by simp) 1 rfl, hq0⟩
  refine takeH 0 (fun _ _ _ _ _ h => h) (by kernel_rfl) hHeld rfl (by kernel_rfl) (by rfl) (v := ?_) ?_ ?_
  rotate_left
  ((intro wz hz; (try dsimp only at hz); go_simp) <;> with_reducible rfl)
  try simp only [Act.put, List.setIfInBounds_toArray, List.set_cons_zero, List.set_cons_succ]
  refine takeH 1 (fun _ _ _ _ _ h => h) (by kernel_rfl) hHeld rfl (by kernel_rfl) (by rfl) (v := ?_) ?_ ?_
  rotate_left
  ((intro wz hz; (try dsimp only at hz); go_simp) <;> with_reducible rfl)
  try simp only [Act.put, List.setIfInBounds_toArray, List.set_cons_zero, List.set_cons_succ]
  refine takeH 2 (fun _ _ _ _ _ h => h) (by kernel_rfl) hHeld rfl (by kernel_rfl) (by rfl) (v := ?_) ?_ ?_
  rotate_left
  ((intro wz hz; (try dsimp only at hz); go_simp) <;> with_reducible rfl)
  try simp only [Act.put, List.setIfInBounds_toArray, List.set_cons_zero, List.set_cons_succ]
  refine takeH 3 (fun _ _ _ _ _ h => h) (by kernel_rfl) hHeld rfl (by kernel_rfl) (by rfl) (v := ?_) ?_ ?_
  rotate_left
  ((intro wz hz; (try dsimp only at hz); go_simp) <;> with_reducible rfl)
  try simp only [Act.put, List.setIfInBounds_toArray, List.set_cons_zero, List.set_cons_succ]
  refine stepH 4 (by kernel_rfl) rfl (by rfl) (fun K hK => ?_)
  go_simp
  refine (hcM.out _).mono ?_
  rintro e wq' ⟨rfl, nq1, rfl⟩
  refine hK.out _ _ ?_ (fun hHeld => ?_)
  · exact ⟨HR.cell (HR.like hHeld.2.2 rfl rfl rfl rfl) (b := b8) (cs := #[.int .u64 ax, .int .u64 ay]) (t := 37) (by simp) 0 rfl, HR.cell (HR.like hHeld.2.2 rfl rfl rfl rfl) (b := b8) (cs := #[.int .u64 ax, .int .u64 ay]) (t := 37) (by simp) 1 rfl, (HR.like hHeld.2.2 rfl rfl rfl rfl)⟩
  clear hK K
  try simp only [Act.put, List.setIfInBounds_toArray, List.set_cons_zero, List.set_cons_succ]
  refine stepH 5 (by kernel_rfl) rfl (by rfl) (fun K hK => ?_)
  go_simp
  refine (hcZ.out _).mono ?_
  rintro e wq' ⟨rfl, nq2, rfl⟩
  refine hK.out _ _ ?_ (fun hHeld => ?_)
  · exact ⟨HR.cell (HR.like hHeld.2.2 rfl rfl rfl rfl) (b := b8) (cs := #[.int .u64 ax, .int .u64 ay]) (t := 37) (by simp) 0 rfl, HR.cell (HR.like hHeld.2.2 rfl rfl rfl rfl) (b := b8) (cs := #[.int .u64 ax, .int .u64 ay]) (t := 37) (by simp) 1 rfl, (HR.like hHeld.2.2 rfl rfl rfl rfl)⟩
  clear hK K
  try simp only [Act.put, List.setIfInBounds_toArray, List.set_cons_zero, List.set_cons_succ]
  refine takeH 6 (fun _ _ _ _ _ h => h) (by kernel_rfl) hHeld rfl (by kernel_rfl) (by rfl) (v := ?_) ?_ ?_
  rotate_left
  ((intro wz hz; (try dsimp only at hz); go_simp) <;> with_reducible rfl)
  try simp only [Act.put, List.setIfInBounds_toArray, List.set_cons_zero, List.set_cons_succ]
  refine stepH 7 (by kernel_rfl) rfl (by rfl) (fun K hK => ?_)
  go_simp
  refine hK.out _ _ ?_ (fun hHeld => ?_)
  · exact ⟨HR.cell (HR.like (HR.other (HR.other (HR.other (H4t.out) (D := b6) (o := 0) (v := .int .u64 ax) (by simp; omega) (by rw [← hb6.out]; exact Nat.le_refl _)) (D := b6) (o := 1) (v := .int .u64 ay) (by simp; omega) (by rw [← hb6.out]; exact Nat.le_refl _)) (D := b6) (o := 2) (v := .int .u64 z) (by simp; omega) (by rw [← hb6.out]; exact Nat.le_refl _)) rfl rfl rfl rfl) (b := b8) (cs := #[.int .u64 ax, .int .u64 ay]) (t := 37) (by simp) 0 rfl, HR.cell (HR.like (HR.other (HR.other (HR.other (H4t.out) (D := b6) (o := 0) (v := .int .u64 ax) (by simp; omega) (by rw [← hb6.out]; exact Nat.le_refl _)) (D := b6) (o := 1) (v := .int .u64 ay) (by simp; omega) (by rw [← hb6.out]; exact Nat.le_refl _)) (D := b6) (o := 2) (v := .int .u64 z) (by simp; omega) (by rw [← hb6.out]; exact Nat.le_refl _)) rfl rfl rfl rfl) (b := b8) (cs := #[.int .u64 ax, .int .u64 ay]) (t := 37) (by simp) 1 rfl, (HR.like (HR.other (HR.other (HR.other (H4t.out) (D := b6) (o := 0) (v := .int .u64 ax) (by simp; omega) (by rw [← hb6.out]; exact Nat.le_refl _)) (D := b6) (o := 1) (v := .int .u64 ay) (by simp; omega) (by rw [← hb6.out]; exact Nat.le_refl _)) (D := b6) (o := 2) (v := .int .u64 z) (by simp; omega) (by rw [← hb6.out]; exact Nat.le_refl _)) rfl rfl rfl rfl)⟩
  clear hK K
  try simp only [Act.put, List.setIfInBounds_toArray, List.set_cons_zero, List.set_cons_succ]
  refine takeH 8 (fun _ _ _ _ _ h => h) (by kernel_rfl) hHeld rfl (by kernel_rfl) (by rfl) (v := ?_) ?_ ?_
  rotate_left
  ((intro wz hz; (try dsimp only at hz); go_simp) <;> with_reducible rfl)
  try simp only [Act.put, List.setIfInBounds_toArray, List.set_cons_zero, List.set_cons_succ]
  refine wpAnyH_done (by kernel_rfl) (NoPanic.normal ?_) _
  have HF := Lib.hid (hHeld.2.2.2)
  clear hHeld
  go_wp2_with fail
  refine bodyPost_ret (v := .tuple #[.agg #[.int .u64 ax, .int .u64 ay, .int .u64 z], .nilIface]) (by simp [results, Tryd.results25, go_sem, s0, s1, s2]) rfl ⟨by rw [sig_of HV.out], HF.out⟩

end Go.Proofs.YtiffendfojhapaaDoor
