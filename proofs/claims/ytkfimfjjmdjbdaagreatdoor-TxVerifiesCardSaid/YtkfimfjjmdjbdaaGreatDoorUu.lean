import Derived.Test.YtkfimfjjmdjbdaaGreatDoorUt
set_option linter.unusedVariables false
set_option linter.unusedSimpArgs false
set_option linter.unusedSectionVars false
/- Walks: package schnorr: whether a signature holds. -/
namespace Go.Proofs.YtkfimfjjmdjbdaaGreatDoor
open Go.RowKit

theorem mulZero (px py : Int) (px0 : 0 ≤ px) (py0 : 0 ≤ py) (w : World) :
    Calls Tryz.prog 32 #[edV px py, .int .u64 0] w fun e w' => e = .returned (edV 0 1) ∧ Below w.heap.size w w' := by
  have h := gMul px py 0 px0 py0 (by omega) (by omega) w
  rw [show (0 : Int).toNat = 0 from rfl, show Obol.Pnt.smul 0 (Obol.Pnt.of (px.toNat, py.toNat)) = Obol.Pnt.zero from rfl, zeroV] at h
  exact h
set_option maxRecDepth 8000 in
set_option maxHeartbeats 2000000 in
theorem sVerZ (px py ax ay z : Int) (px0 : 0 ≤ px) (py0 : 0 ≤ py) (ax0 : 0 ≤ ax) (ay0 : 0 ≤ ay) (z0 : 0 ≤ z) (z1 : z ≤ 18446744073709551615) (ao : Option Addr) (len cap : Nat)  (h : px = 0 ∧ py = 1) (w : World) :
    Calls Tryz.prog 14 #[edV px py, .slice ao len cap, .agg #[.int .u64 ax, .int .u64 ay, .int .u64 z]] w fun e w' => e = .returned (errC 10) ∧ Below w.heap.size w w' := by
  replace h := Lib.hid h
  go_enter Tryz.func14, Tryz.ntmps14
  go_wp2_with fail
  have H0 := Lib.hid (((HR.refl w).new #[.int .u64 px, .int .u64 py] 24).new #[.int .u64 ax, .int .u64 ay, .int .u64 z] 35)
  rw [World.size_alloc] at H0
  generalize (w.alloc (.cells #[.int .u64 px, .int .u64 py] 24)).alloc (.cells #[.int .u64 ax, .int .u64 ay, .int .u64 z] 35) = w2 at H0 ⊢
  generalize w.heap.size + 1 = b5 at H0 ⊢
  generalize hb3 : w.heap.size = b3 at H0 ⊢
  replace hb3 := Lib.hid hb3
  refine wp_region_noPanic ?_
  refine wp_region_held_drew (S := fun wq => wq.cell? ⟨b5, 0, none⟩ = some (.int .u64 ax) ∧ wq.cell? ⟨b5, 1, none⟩ = some (.int .u64 ay) ∧ wq.cell? ⟨b5, 2, none⟩ = some (.int .u64 z) ∧ wq.cell? ⟨b3, 0, none⟩ = some (.int .u64 px) ∧ wq.cell? ⟨b3, 1, none⟩ = some (.int .u64 py) ∧ HR w wq [(b5, #[.int .u64 ax, .int .u64 ay, .int .u64 z], 35), (b3, #[.int .u64 px, .int .u64 py], 24)]) (by kernel_rfl) ?_ (fun hHeld => ?_)
  · have hq0 := HR.drew H0.out
    exact ⟨HR.cell hq0 (b := b5) (cs := #[.int .u64 ax, .int .u64 ay, .int .u64 z]) (t := 35) (by simp) 0 rfl, HR.cell hq0 (b := b5) (cs := #[.int .u64 ax, .int .u64 ay, .int .u64 z]) (t := 35) (by simp) 1 rfl, HR.cell hq0 (b := b5) (cs := #[.int .u64 ax, .int .u64 ay, .int .u64 z]) (t := 35) (by simp) 2 rfl, HR.cell hq0 (b := b3) (cs := #[.int .u64 px, .int .u64 py]) (t := 24) (by simp) 0 rfl, HR.cell hq0 (b := b3) (cs := #[.int .u64 px, .int .u64 py]) (t := 24) (by simp) 1 rfl, hq0⟩
  refine tk 0 hHeld ?_; refine tk 1 hHeld ?_
  refine stepH 2 (by kernel_rfl) rfl (by rfl) (fun K hK => ?_)
  go_simp
  refine (mulZero px py px0 py0 _).mono ?_
  rintro e wc1 ⟨rfl, hbc1⟩
  have hrc1 := HR.next hHeld.2.2.2.2.2 hbc1
  refine hK.out _ _ ?_ (fun hHeld => ?_)
  · exact ⟨HR.cell hrc1 (b := b5) (cs := #[.int .u64 ax, .int .u64 ay, .int .u64 z]) (t := 35) (by simp) 0 rfl, HR.cell hrc1 (b := b5) (cs := #[.int .u64 ax, .int .u64 ay, .int .u64 z]) (t := 35) (by simp) 1 rfl, HR.cell hrc1 (b := b5) (cs := #[.int .u64 ax, .int .u64 ay, .int .u64 z]) (t := 35) (by simp) 2 rfl, HR.cell hrc1 (b := b3) (cs := #[.int .u64 px, .int .u64 py]) (t := 24) (by simp) 0 rfl, HR.cell hrc1 (b := b3) (cs := #[.int .u64 px, .int .u64 py]) (t := 24) (by simp) 1 rfl, hrc1⟩
  clear hK K
  try simp only [Act.put, List.setIfInBounds_toArray, List.set_cons_zero, List.set_cons_succ]
  refine takeH 3 (fun _ _ _ _ _ h => h) (by kernel_rfl) hHeld rfl (by kernel_rfl) (by rfl) (v := .bool true) ?_ ?_
  · intro wz hz
    (try dsimp only at hz)
    go_simp
    obtain ⟨e1, e2⟩ := h.out
    simp [e1, e2]
  try simp only [Act.put, List.setIfInBounds_toArray, List.set_cons_zero, List.set_cons_succ]
  refine tk 4 hHeld ?_; refine sk 5 hHeld ?_; refine sk 6 hHeld ?_; refine sk 7 hHeld ?_; refine sk 8 hHeld ?_; refine tk 9 hHeld ?_; refine tk 10 hHeld ?_; refine sk 11 hHeld ?_; refine sk 12 hHeld ?_; refine sk 13 hHeld ?_; refine tk 14 hHeld ?_; refine tk 15 hHeld ?_; refine sk 16 hHeld ?_; refine sk 17 hHeld ?_; refine sk 18 hHeld ?_; refine tk 19 hHeld ?_
  refine wpAnyH_done (by kernel_rfl) (NoPanic.normal ?_) _
  have HB := Lib.hid (hHeld.2.2.2.2.2.2)
  clear hHeld
  go_wp2_with fail
  go_ret
  exact ⟨rfl, HB.out⟩
set_option maxRecDepth 8000 in
set_option maxHeartbeats 2000000 in
theorem sVerA (px py ax ay z : Int) (px0 : 0 ≤ px) (py0 : 0 ≤ py) (ax0 : 0 ≤ ax) (ay0 : 0 ≤ ay) (z0 : 0 ≤ z) (z1 : z ≤ 18446744073709551615) (ao : Option Addr) (len cap : Nat)  (h : ¬ (px = 0 ∧ py = 1)) (hA : inN (ax.toNat, ay.toNat) = false) (w : World) :
    Calls Tryz.prog 14 #[edV px py, .slice ao len cap, .agg #[.int .u64 ax, .int .u64 ay, .int .u64 z]] w fun e w' => e = .returned (errC 10) ∧ Below w.heap.size w w' := by
  have hIA := fun w => eIn ax ay ax0 ay0 w
  rw [hA] at hIA
  replace hIA := Lib.hid hIA
  replace h := Lib.hid h
  go_enter Tryz.func14, Tryz.ntmps14
  go_wp2_with fail
  have H0 := Lib.hid (((HR.refl w).new #[.int .u64 px, .int .u64 py] 24).new #[.int .u64 ax, .int .u64 ay, .int .u64 z] 35)
  rw [World.size_alloc] at H0
  generalize (w.alloc (.cells #[.int .u64 px, .int .u64 py] 24)).alloc (.cells #[.int .u64 ax, .int .u64 ay, .int .u64 z] 35) = w2 at H0 ⊢
  generalize w.heap.size + 1 = b5 at H0 ⊢
  generalize hb3 : w.heap.size = b3 at H0 ⊢
  replace hb3 := Lib.hid hb3
  refine wp_region_noPanic ?_
  refine wp_region_held_drew (S := fun wq => wq.cell? ⟨b5, 0, none⟩ = some (.int .u64 ax) ∧ wq.cell? ⟨b5, 1, none⟩ = some (.int .u64 ay) ∧ wq.cell? ⟨b5, 2, none⟩ = some (.int .u64 z) ∧ wq.cell? ⟨b3, 0, none⟩ = some (.int .u64 px) ∧ wq.cell? ⟨b3, 1, none⟩ = some (.int .u64 py) ∧ HR w wq [(b5, #[.int .u64 ax, .int .u64 ay, .int .u64 z], 35), (b3, #[.int .u64 px, .int .u64 py], 24)]) (by kernel_rfl) ?_ (fun hHeld => ?_)
  · have hq0 := HR.drew H0.out
    exact ⟨HR.cell hq0 (b := b5) (cs := #[.int .u64 ax, .int .u64 ay, .int .u64 z]) (t := 35) (by simp) 0 rfl, HR.cell hq0 (b := b5) (cs := #[.int .u64 ax, .int .u64 ay, .int .u64 z]) (t := 35) (by simp) 1 rfl, HR.cell hq0 (b := b5) (cs := #[.int .u64 ax, .int .u64 ay, .int .u64 z]) (t := 35) (by simp) 2 rfl, HR.cell hq0 (b := b3) (cs := #[.int .u64 px, .int .u64 py]) (t := 24) (by simp) 0 rfl, HR.cell hq0 (b := b3) (cs := #[.int .u64 px, .int .u64 py]) (t := 24) (by simp) 1 rfl, hq0⟩
  refine tk 0 hHeld ?_; refine tk 1 hHeld ?_
  refine stepH 2 (by kernel_rfl) rfl (by rfl) (fun K hK => ?_)
  go_simp
  refine (mulZero px py px0 py0 _).mono ?_
  rintro e wc1 ⟨rfl, hbc1⟩
  have hrc1 := HR.next hHeld.2.2.2.2.2 hbc1
  refine hK.out _ _ ?_ (fun hHeld => ?_)
  · exact ⟨HR.cell hrc1 (b := b5) (cs := #[.int .u64 ax, .int .u64 ay, .int .u64 z]) (t := 35) (by simp) 0 rfl, HR.cell hrc1 (b := b5) (cs := #[.int .u64 ax, .int .u64 ay, .int .u64 z]) (t := 35) (by simp) 1 rfl, HR.cell hrc1 (b := b5) (cs := #[.int .u64 ax, .int .u64 ay, .int .u64 z]) (t := 35) (by simp) 2 rfl, HR.cell hrc1 (b := b3) (cs := #[.int .u64 px, .int .u64 py]) (t := 24) (by simp) 0 rfl, HR.cell hrc1 (b := b3) (cs := #[.int .u64 px, .int .u64 py]) (t := 24) (by simp) 1 rfl, hrc1⟩
  clear hK K
  try simp only [Act.put, List.setIfInBounds_toArray, List.set_cons_zero, List.set_cons_succ]
  refine takeH 3 (fun _ _ _ _ _ h => h) (by kernel_rfl) hHeld rfl (by kernel_rfl) (by rfl) (v := .bool false) ?_ ?_
  · intro wz hz
    (try dsimp only at hz)
    go_simp
    by_cases e1 : px = 0 <;> by_cases e2 : py = 1 <;> simp [e1, e2] <;> exact (h.out ⟨e1, e2⟩).elim
  try simp only [Act.put, List.setIfInBounds_toArray, List.set_cons_zero, List.set_cons_succ]
  refine tk 4 hHeld ?_; refine tk 5 hHeld ?_; refine tk 6 hHeld ?_
  refine stepH 7 (by kernel_rfl) rfl (by rfl) (fun K hK => ?_)
  go_simp
  refine (hIA.out _).mono ?_
  rintro e wc2 ⟨rfl, hbc2⟩
  have hrc2 := HR.next hHeld.2.2.2.2.2 hbc2
  refine hK.out _ _ ?_ (fun hHeld => ?_)
  · exact ⟨HR.cell hrc2 (b := b5) (cs := #[.int .u64 ax, .int .u64 ay, .int .u64 z]) (t := 35) (by simp) 0 rfl, HR.cell hrc2 (b := b5) (cs := #[.int .u64 ax, .int .u64 ay, .int .u64 z]) (t := 35) (by simp) 1 rfl, HR.cell hrc2 (b := b5) (cs := #[.int .u64 ax, .int .u64 ay, .int .u64 z]) (t := 35) (by simp) 2 rfl, HR.cell hrc2 (b := b3) (cs := #[.int .u64 px, .int .u64 py]) (t := 24) (by simp) 0 rfl, HR.cell hrc2 (b := b3) (cs := #[.int .u64 px, .int .u64 py]) (t := 24) (by simp) 1 rfl, hrc2⟩
  clear hK K
  try simp only [Act.put, List.setIfInBounds_toArray, List.set_cons_zero, List.set_cons_succ]
  refine tk 8 hHeld ?_; refine tk 9 hHeld ?_; refine tk 10 hHeld ?_; refine sk 11 hHeld ?_; refine sk 12 hHeld ?_; refine sk 13 hHeld ?_; refine tk 14 hHeld ?_; refine tk 15 hHeld ?_; refine sk 16 hHeld ?_; refine sk 17 hHeld ?_; refine sk 18 hHeld ?_; refine tk 19 hHeld ?_
  refine wpAnyH_done (by kernel_rfl) (NoPanic.normal ?_) _
  have HB := Lib.hid (hHeld.2.2.2.2.2.2)
  clear hHeld
  go_wp2_with fail
  go_ret
  exact ⟨rfl, HB.out⟩
set_option maxRecDepth 8000 in
set_option maxHeartbeats 2000000 in
theorem sVerP (px py ax ay z : Int) (px0 : 0 ≤ px) (py0 : 0 ≤ py) (ax0 : 0 ≤ ax) (ay0 : 0 ≤ ay) (z0 : 0 ≤ z) (z1 : z ≤ 18446744073709551615) (ao : Option Addr) (len cap : Nat)  (h : ¬ (px = 0 ∧ py = 1)) (hA : inN (ax.toNat, ay.toNat) = true) (hP : inN (px.toNat, py.toNat) = false) (w : World) :
    Calls Tryz.prog 14 #[edV px py, .slice ao len cap, .agg #[.int .u64 ax, .int .u64 ay, .int .u64 z]] w fun e w' => e = .returned (errC 10) ∧ Below w.heap.size w w' := by
  have hIA := fun w => eIn ax ay ax0 ay0 w
  rw [hA] at hIA
  replace hIA := Lib.hid hIA
  have hIP := fun w => eIn px py px0 py0 w
  rw [hP] at hIP
  replace hIP := Lib.hid hIP
  replace h := Lib.hid h
  go_enter Tryz.func14, Tryz.ntmps14
  go_wp2_with fail
  have H0 := Lib.hid (((HR.refl w).new #[.int .u64 px, .int .u64 py] 24).new #[.int .u64 ax, .int .u64 ay, .int .u64 z] 35)
  rw [World.size_alloc] at H0
  generalize (w.alloc (.cells #[.int .u64 px, .int .u64 py] 24)).alloc (.cells #[.int .u64 ax, .int .u64 ay, .int .u64 z] 35) = w2 at H0 ⊢
  generalize w.heap.size + 1 = b5 at H0 ⊢
  generalize hb3 : w.heap.size = b3 at H0 ⊢
  replace hb3 := Lib.hid hb3
  refine wp_region_noPanic ?_
  refine wp_region_held_drew (S := fun wq => wq.cell? ⟨b5, 0, none⟩ = some (.int .u64 ax) ∧ wq.cell? ⟨b5, 1, none⟩ = some (.int .u64 ay) ∧ wq.cell? ⟨b5, 2, none⟩ = some (.int .u64 z) ∧ wq.cell? ⟨b3, 0, none⟩ = some (.int .u64 px) ∧ wq.cell? ⟨b3, 1, none⟩ = some (.int .u64 py) ∧ HR w wq [(b5, #[.int .u64 ax, .int .u64 ay, .int .u64 z], 35), (b3, #[.int .u64 px, .int .u64 py], 24)]) (by kernel_rfl) ?_ (fun hHeld => ?_)
  · have hq0 := HR.drew H0.out
    exact ⟨HR.cell hq0 (b := b5) (cs := #[.int .u64 ax, .int .u64 ay, .int .u64 z]) (t := 35) (by simp) 0 rfl, HR.cell hq0 (b := b5) (cs := #[.int .u64 ax, .int .u64 ay, .int .u64 z]) (t := 35) (by simp) 1 rfl, HR.cell hq0 (b := b5) (cs := #[.int .u64 ax, .int .u64 ay, .int .u64 z]) (t := 35) (by simp) 2 rfl, HR.cell hq0 (b := b3) (cs := #[.int .u64 px, .int .u64 py]) (t := 24) (by simp) 0 rfl, HR.cell hq0 (b := b3) (cs := #[.int .u64 px, .int .u64 py]) (t := 24) (by simp) 1 rfl, hq0⟩
  refine tk 0 hHeld ?_; refine tk 1 hHeld ?_
  refine stepH 2 (by kernel_rfl) rfl (by rfl) (fun K hK => ?_)
  go_simp
  refine (mulZero px py px0 py0 _).mono ?_
  rintro e wc1 ⟨rfl, hbc1⟩
  have hrc1 := HR.next hHeld.2.2.2.2.2 hbc1
  refine hK.out _ _ ?_ (fun hHeld => ?_)
  · exact ⟨HR.cell hrc1 (b := b5) (cs := #[.int .u64 ax, .int .u64 ay, .int .u64 z]) (t := 35) (by simp) 0 rfl, HR.cell hrc1 (b := b5) (cs := #[.int .u64 ax, .int .u64 ay, .int .u64 z]) (t := 35) (by simp) 1 rfl, HR.cell hrc1 (b := b5) (cs := #[.int .u64 ax, .int .u64 ay, .int .u64 z]) (t := 35) (by simp) 2 rfl, HR.cell hrc1 (b := b3) (cs := #[.int .u64 px, .int .u64 py]) (t := 24) (by simp) 0 rfl, HR.cell hrc1 (b := b3) (cs := #[.int .u64 px, .int .u64 py]) (t := 24) (by simp) 1 rfl, hrc1⟩
  clear hK K
  try simp only [Act.put, List.setIfInBounds_toArray, List.set_cons_zero, List.set_cons_succ]
  refine takeH 3 (fun _ _ _ _ _ h => h) (by kernel_rfl) hHeld rfl (by kernel_rfl) (by rfl) (v := .bool false) ?_ ?_
  · intro wz hz
    (try dsimp only at hz)
    go_simp
    by_cases e1 : px = 0 <;> by_cases e2 : py = 1 <;> simp [e1, e2] <;> exact (h.out ⟨e1, e2⟩).elim
  try simp only [Act.put, List.setIfInBounds_toArray, List.set_cons_zero, List.set_cons_succ]
  refine tk 4 hHeld ?_; refine tk 5 hHeld ?_; refine tk 6 hHeld ?_
  refine stepH 7 (by kernel_rfl) rfl (by rfl) (fun K hK => ?_)
  go_simp
  refine (hIA.out _).mono ?_
  rintro e wc2 ⟨rfl, hbc2⟩
  have hrc2 := HR.next hHeld.2.2.2.2.2 hbc2
  refine hK.out _ _ ?_ (fun hHeld => ?_)
  · exact ⟨HR.cell hrc2 (b := b5) (cs := #[.int .u64 ax, .int .u64 ay, .int .u64 z]) (t := 35) (by simp) 0 rfl, HR.cell hrc2 (b := b5) (cs := #[.int .u64 ax, .int .u64 ay, .int .u64 z]) (t := 35) (by simp) 1 rfl, HR.cell hrc2 (b := b5) (cs := #[.int .u64 ax, .int .u64 ay, .int .u64 z]) (t := 35) (by simp) 2 rfl, HR.cell hrc2 (b := b3) (cs := #[.int .u64 px, .int .u64 py]) (t := 24) (by simp) 0 rfl, HR.cell hrc2 (b := b3) (cs := #[.int .u64 px, .int .u64 py]) (t := 24) (by simp) 1 rfl, hrc2⟩
  clear hK K
  try simp only [Act.put, List.setIfInBounds_toArray, List.set_cons_zero, List.set_cons_succ]
  refine tk 8 hHeld ?_; refine tk 9 hHeld ?_; refine tk 10 hHeld ?_; refine tk 11 hHeld ?_
  refine stepH 12 (by kernel_rfl) rfl (by rfl) (fun K hK => ?_)
  go_simp
  refine (hIP.out _).mono ?_
  rintro e wc3 ⟨rfl, hbc3⟩
  have hrc3 := HR.next hHeld.2.2.2.2.2 hbc3
  refine hK.out _ _ ?_ (fun hHeld => ?_)
  · exact ⟨HR.cell hrc3 (b := b5) (cs := #[.int .u64 ax, .int .u64 ay, .int .u64 z]) (t := 35) (by simp) 0 rfl, HR.cell hrc3 (b := b5) (cs := #[.int .u64 ax, .int .u64 ay, .int .u64 z]) (t := 35) (by simp) 1 rfl, HR.cell hrc3 (b := b5) (cs := #[.int .u64 ax, .int .u64 ay, .int .u64 z]) (t := 35) (by simp) 2 rfl, HR.cell hrc3 (b := b3) (cs := #[.int .u64 px, .int .u64 py]) (t := 24) (by simp) 0 rfl, HR.cell hrc3 (b := b3) (cs := #[.int .u64 px, .int .u64 py]) (t := 24) (by simp) 1 rfl, hrc3⟩
  clear hK K
  try simp only [Act.put, List.setIfInBounds_toArray, List.set_cons_zero, List.set_cons_succ]
  refine tk 13 hHeld ?_; refine tk 14 hHeld ?_; refine tk 15 hHeld ?_; refine sk 16 hHeld ?_; refine sk 17 hHeld ?_; refine sk 18 hHeld ?_; refine tk 19 hHeld ?_
  refine wpAnyH_done (by kernel_rfl) (NoPanic.normal ?_) _
  have HB := Lib.hid (hHeld.2.2.2.2.2.2)
  clear hHeld
  go_wp2_with fail
  go_ret
  exact ⟨rfl, HB.out⟩
set_option maxRecDepth 8000 in
set_option maxHeartbeats 2000000 in
theorem sVerS (px py ax ay z : Int) (px0 : 0 ≤ px) (py0 : 0 ≤ py) (ax0 : 0 ≤ ax) (ay0 : 0 ≤ ay) (z0 : 0 ≤ z) (z1 : z ≤ 18446744073709551615) (ao : Option Addr) (len cap : Nat)  (h : ¬ (px = 0 ∧ py = 1)) (hA : inN (ax.toNat, ay.toNat) = true) (hP : inN (px.toNat, py.toNat) = true) (hz : 72057593894066549 ≤ z) (w : World) :
    Calls Tryz.prog 14 #[edV px py, .slice ao len cap, .agg #[.int .u64 ax, .int .u64 ay, .int .u64 z]] w fun e w' => e = .returned (errC 10) ∧ Below w.heap.size w w' := by
  have hIA := fun w => eIn ax ay ax0 ay0 w
  rw [hA] at hIA
  replace hIA := Lib.hid hIA
  have hIP := fun w => eIn px py px0 py0 w
  rw [hP] at hIP
  replace hIP := Lib.hid hIP
  replace h := Lib.hid h
  go_enter Tryz.func14, Tryz.ntmps14
  go_wp2_with fail
  have H0 := Lib.hid (((HR.refl w).new #[.int .u64 px, .int .u64 py] 24).new #[.int .u64 ax, .int .u64 ay, .int .u64 z] 35)
  rw [World.size_alloc] at H0
  generalize (w.alloc (.cells #[.int .u64 px, .int .u64 py] 24)).alloc (.cells #[.int .u64 ax, .int .u64 ay, .int .u64 z] 35) = w2 at H0 ⊢
  generalize w.heap.size + 1 = b5 at H0 ⊢
  generalize hb3 : w.heap.size = b3 at H0 ⊢
  replace hb3 := Lib.hid hb3
  refine wp_region_noPanic ?_
  refine wp_region_held_drew (S := fun wq => wq.cell? ⟨b5, 0, none⟩ = some (.int .u64 ax) ∧ wq.cell? ⟨b5, 1, none⟩ = some (.int .u64 ay) ∧ wq.cell? ⟨b5, 2, none⟩ = some (.int .u64 z) ∧ wq.cell? ⟨b3, 0, none⟩ = some (.int .u64 px) ∧ wq.cell? ⟨b3, 1, none⟩ = some (.int .u64 py) ∧ HR w wq [(b5, #[.int .u64 ax, .int .u64 ay, .int .u64 z], 35), (b3, #[.int .u64 px, .int .u64 py], 24)]) (by kernel_rfl) ?_ (fun hHeld => ?_)
  · have hq0 := HR.drew H0.out
    exact ⟨HR.cell hq0 (b := b5) (cs := #[.int .u64 ax, .int .u64 ay, .int .u64 z]) (t := 35) (by simp) 0 rfl, HR.cell hq0 (b := b5) (cs := #[.int .u64 ax, .int .u64 ay, .int .u64 z]) (t := 35) (by simp) 1 rfl, HR.cell hq0 (b := b5) (cs := #[.int .u64 ax, .int .u64 ay, .int .u64 z]) (t := 35) (by simp) 2 rfl, HR.cell hq0 (b := b3) (cs := #[.int .u64 px, .int .u64 py]) (t := 24) (by simp) 0 rfl, HR.cell hq0 (b := b3) (cs := #[.int .u64 px, .int .u64 py]) (t := 24) (by simp) 1 rfl, hq0⟩
  refine tk 0 hHeld ?_; refine tk 1 hHeld ?_
  refine stepH 2 (by kernel_rfl) rfl (by rfl) (fun K hK => ?_)
  go_simp
  refine (mulZero px py px0 py0 _).mono ?_
  rintro e wc1 ⟨rfl, hbc1⟩
  have hrc1 := HR.next hHeld.2.2.2.2.2 hbc1
  refine hK.out _ _ ?_ (fun hHeld => ?_)
  · exact ⟨HR.cell hrc1 (b := b5) (cs := #[.int .u64 ax, .int .u64 ay, .int .u64 z]) (t := 35) (by simp) 0 rfl, HR.cell hrc1 (b := b5) (cs := #[.int .u64 ax, .int .u64 ay, .int .u64 z]) (t := 35) (by simp) 1 rfl, HR.cell hrc1 (b := b5) (cs := #[.int .u64 ax, .int .u64 ay, .int .u64 z]) (t := 35) (by simp) 2 rfl, HR.cell hrc1 (b := b3) (cs := #[.int .u64 px, .int .u64 py]) (t := 24) (by simp) 0 rfl, HR.cell hrc1 (b := b3) (cs := #[.int .u64 px, .int .u64 py]) (t := 24) (by simp) 1 rfl, hrc1⟩
  clear hK K
  try simp only [Act.put, List.setIfInBounds_toArray, List.set_cons_zero, List.set_cons_succ]
  refine takeH 3 (fun _ _ _ _ _ h => h) (by kernel_rfl) hHeld rfl (by kernel_rfl) (by rfl) (v := .bool false) ?_ ?_
  · intro wz hz
    (try dsimp only at hz)
    go_simp
    by_cases e1 : px = 0 <;> by_cases e2 : py = 1 <;> simp [e1, e2] <;> exact (h.out ⟨e1, e2⟩).elim
  try simp only [Act.put, List.setIfInBounds_toArray, List.set_cons_zero, List.set_cons_succ]
  refine tk 4 hHeld ?_; refine tk 5 hHeld ?_; refine tk 6 hHeld ?_
  refine stepH 7 (by kernel_rfl) rfl (by rfl) (fun K hK => ?_)
  go_simp
  refine (hIA.out _).mono ?_
  rintro e wc2 ⟨rfl, hbc2⟩
  have hrc2 := HR.next hHeld.2.2.2.2.2 hbc2
  refine hK.out _ _ ?_ (fun hHeld => ?_)
  · exact ⟨HR.cell hrc2 (b := b5) (cs := #[.int .u64 ax, .int .u64 ay, .int .u64 z]) (t := 35) (by simp) 0 rfl, HR.cell hrc2 (b := b5) (cs := #[.int .u64 ax, .int .u64 ay, .int .u64 z]) (t := 35) (by simp) 1 rfl, HR.cell hrc2 (b := b5) (cs := #[.int .u64 ax, .int .u64 ay, .int .u64 z]) (t := 35) (by simp) 2 rfl, HR.cell hrc2 (b := b3) (cs := #[.int .u64 px, .int .u64 py]) (t := 24) (by simp) 0 rfl, HR.cell hrc2 (b := b3) (cs := #[.int .u64 px, .int .u64 py]) (t := 24) (by simp) 1 rfl, hrc2⟩
  clear hK K
  try simp only [Act.put, List.setIfInBounds_toArray, List.set_cons_zero, List.set_cons_succ]
  refine tk 8 hHeld ?_; refine tk 9 hHeld ?_; refine tk 10 hHeld ?_; refine tk 11 hHeld ?_
  refine stepH 12 (by kernel_rfl) rfl (by rfl) (fun K hK => ?_)
  go_simp
  refine (hIP.out _).mono ?_
  rintro e wc3 ⟨rfl, hbc3⟩
  have hrc3 := HR.next hHeld.2.2.2.2.2 hbc3
  refine hK.out _ _ ?_ (fun hHeld => ?_)
  · exact ⟨HR.cell hrc3 (b := b5) (cs := #[.int .u64 ax, .int .u64 ay, .int .u64 z]) (t := 35) (by simp) 0 rfl, HR.cell hrc3 (b := b5) (cs := #[.int .u64 ax, .int .u64 ay, .int .u64 z]) (t := 35) (by simp) 1 rfl, HR.cell hrc3 (b := b5) (cs := #[.int .u64 ax, .int .u64 ay, .int .u64 z]) (t := 35) (by simp) 2 rfl, HR.cell hrc3 (b := b3) (cs := #[.int .u64 px, .int .u64 py]) (t := 24) (by simp) 0 rfl, HR.cell hrc3 (b := b3) (cs := #[.int .u64 px, .int .u64 py]) (t := 24) (by simp) 1 rfl, hrc3⟩
  clear hK K
  try simp only [Act.put, List.setIfInBounds_toArray, List.set_cons_zero, List.set_cons_succ]
  refine tk 13 hHeld ?_; refine tk 14 hHeld ?_; refine tk 15 hHeld ?_; refine tk 16 hHeld ?_; refine tk 17 hHeld ?_; refine tk 18 hHeld ?_; refine tk 19 hHeld ?_
  refine wpAnyH_done (by kernel_rfl) (NoPanic.normal ?_) _
  have HB := Lib.hid (hHeld.2.2.2.2.2.2)
  clear hHeld
  go_wp2_with fail
  go_ret
  exact ⟨rfl, HB.out⟩
theorem n_of {q : Obol.Pt} {x y : Int} (h : edP q = edV x y) (_x0 : 0 ≤ x) (_y0 : 0 ≤ y) : (x.toNat, y.toNat) = q.n := by
  simp only [Value.agg.injEq, Array.mk.injEq, List.cons.injEq, Value.int.injEq, true_and, and_true] at h
  show _ = (q.x.val, q.y.val)
  rw [Prod.mk.injEq]
  omega
theorem quesP_lt (A P : Obol.Pt) (M : List Nat) : Obol.quesP A P M < 72057593894066549 := Nat.mod_lt _ (by decide)
set_option maxRecDepth 8000 in
set_option maxHeartbeats 4000000 in
theorem sVerY (px py ax ay z : Int) (px0 : 0 ≤ px) (py0 : 0 ≤ py) (ax0 : 0 ≤ ax) (ay0 : 0 ≤ ay) (z0 : 0 ≤ z) (z1 : z ≤ 18446744073709551615) (ao : Option Addr) (len cap : Nat)  (h : ¬ (px = 0 ∧ py = 1)) (A P : Obol.Pt) (hvA : edP A = edV ax ay) (hvP : edP P = edV px py) (hSA : Obol.Pnt.smul 72057593894066549 A = Obol.Pnt.zero) (hSP : Obol.Pnt.smul 72057593894066549 P = Obol.Pnt.zero) (hz : z < 72057593894066549)
    (M : List Nat) (HM : B8 len M) (hl : len ≤ 10000) (hC : Obol.Pnt.smul z.toNat Obol.G = A.add (Obol.Pnt.smul (Obol.quesP A P M) P)) (w : World) (hS0 : SlI w.heap.size w ao cap M) (hG0 : RowsAt w) :
    Calls Tryz.prog 14 #[edV px py, .slice ao len cap, .agg #[.int .u64 ax, .int .u64 ay, .int .u64 z]] w fun e w' => e = .returned .nilIface ∧ Below w.heap.size w w' := by
  have hnA : (ax.toNat, ay.toNat) = A.n := n_of hvA ax0 ay0
  have hnP : (px.toNat, py.toNat) = P.n := n_of hvP px0 py0
  have hIA := Lib.hid (gIn ax ay ax0 ay0 A hvA hSA)
  have hIP := Lib.hid (gIn px py px0 py0 P hvP hSP)
  have hcQ := Lib.hid (fun W (hw : Below w.heap.size w W) gb hR => sQues ao len cap M HM (by omega) gb ax ay px py ax0 ay0 px0 py0 (by rw [hnA]; exact Obol.pt_isN A) (by rw [hnP]; exact Obol.pt_isN P) W (hS0.at hw) hR (hG0.below hw))
  rw [hnA, hnP] at hcQ
  change Hid (∀ W, Below w.heap.size w W → ∀ gb, _ → Calls _ _ _ W fun e w' => e = .returned (.tuple #[.int .u64 ((Obol.quesP A P M : Nat) : Int), .nilIface]) ∧ _) at hcQ
  have hqlt := quesP_lt A P M
  generalize hq0 : Obol.quesP A P M = q0 at hcQ hqlt hC
  obtain ⟨q, hq⟩ : ∃ q : Int, ((q0 : Nat) : Int) = q := ⟨_, rfl⟩
  have q0' : 0 ≤ q := by omega
  rw [hq] at hcQ
  have hcZ := fun w => sPoint z z0 z1 w
  have hcM := fun w => gMul px py q px0 py0 q0' (by omega) w
  rw [hnP, Obol.of_n, show q.toNat = q0 by omega] at hcM
  obtain ⟨mx, my, mx0, my0, -, -, hvM, hnM⟩ := coordsN (Obol.Pnt.smul q0 P)
  rw [hvM] at hcM
  have hcS := fun w => gAdd ax ay mx my ax0 ay0 mx0 my0 w
  rw [hnA, hnM, Obol.of_n, Obol.of_n] at hcS
  rw [← hC] at hcS
  obtain ⟨sx, sy, -, -, -, -, hvS, -⟩ := coordsN (Obol.Pnt.smul z.toNat Obol.G)
  rw [hvS] at hcS hcZ
  replace hcS := Lib.hid hcS
  replace hcZ := Lib.hid hcZ
  replace hcM := Lib.hid hcM
  clear hvS hvM hnM hC hnA hnP hq0 hq hqlt hvA hvP hSA hSP HM hS0 hG0
  replace h := Lib.hid h
  go_enter Tryz.func14, Tryz.ntmps14
  go_wp2_with fail
  have H0 := Lib.hid (((HR.refl w).new #[.int .u64 px, .int .u64 py] 24).new #[.int .u64 ax, .int .u64 ay, .int .u64 z] 35)
  rw [World.size_alloc] at H0
  generalize (w.alloc (.cells #[.int .u64 px, .int .u64 py] 24)).alloc (.cells #[.int .u64 ax, .int .u64 ay, .int .u64 z] 35) = w2 at H0 ⊢
  generalize w.heap.size + 1 = b5 at H0 ⊢
  generalize hb3 : w.heap.size = b3 at H0 ⊢
  replace hb3 := Lib.hid hb3
  refine wp_region_noPanic ?_
  refine wp_region_held_drew (S := fun wq => wq.cell? ⟨b5, 0, none⟩ = some (.int .u64 ax) ∧ wq.cell? ⟨b5, 1, none⟩ = some (.int .u64 ay) ∧ wq.cell? ⟨b5, 2, none⟩ = some (.int .u64 z) ∧ wq.cell? ⟨b3, 0, none⟩ = some (.int .u64 px) ∧ wq.cell? ⟨b3, 1, none⟩ = some (.int .u64 py) ∧ HR w wq [(b5, #[.int .u64 ax, .int .u64 ay, .int .u64 z], 35), (b3, #[.int .u64 px, .int .u64 py], 24)]) (by kernel_rfl) ?_ (fun hHeld => ?_)
  · have hq0 := HR.drew H0.out
    exact ⟨HR.cell hq0 (b := b5) (cs := #[.int .u64 ax, .int .u64 ay, .int .u64 z]) (t := 35) (by simp) 0 rfl, HR.cell hq0 (b := b5) (cs := #[.int .u64 ax, .int .u64 ay, .int .u64 z]) (t := 35) (by simp) 1 rfl, HR.cell hq0 (b := b5) (cs := #[.int .u64 ax, .int .u64 ay, .int .u64 z]) (t := 35) (by simp) 2 rfl, HR.cell hq0 (b := b3) (cs := #[.int .u64 px, .int .u64 py]) (t := 24) (by simp) 0 rfl, HR.cell hq0 (b := b3) (cs := #[.int .u64 px, .int .u64 py]) (t := 24) (by simp) 1 rfl, hq0⟩
  refine tk 0 hHeld ?_; refine tk 1 hHeld ?_
  refine stepH 2 (by kernel_rfl) rfl (by rfl) (fun K hK => ?_)
  go_simp
  refine (mulZero px py px0 py0 _).mono ?_
  rintro e wc1 ⟨rfl, hbc1⟩
  have hrc1 := HR.next hHeld.2.2.2.2.2 hbc1
  refine hK.out _ _ ?_ (fun hHeld => ?_)
  · exact ⟨HR.cell hrc1 (b := b5) (cs := #[.int .u64 ax, .int .u64 ay, .int .u64 z]) (t := 35) (by simp) 0 rfl, HR.cell hrc1 (b := b5) (cs := #[.int .u64 ax, .int .u64 ay, .int .u64 z]) (t := 35) (by simp) 1 rfl, HR.cell hrc1 (b := b5) (cs := #[.int .u64 ax, .int .u64 ay, .int .u64 z]) (t := 35) (by simp) 2 rfl, HR.cell hrc1 (b := b3) (cs := #[.int .u64 px, .int .u64 py]) (t := 24) (by simp) 0 rfl, HR.cell hrc1 (b := b3) (cs := #[.int .u64 px, .int .u64 py]) (t := 24) (by simp) 1 rfl, hrc1⟩
  clear hK K
  try simp only [Act.put, List.setIfInBounds_toArray, List.set_cons_zero, List.set_cons_succ]
  refine takeH 3 (fun _ _ _ _ _ h => h) (by kernel_rfl) hHeld rfl (by kernel_rfl) (by rfl) (v := .bool false) ?_ ?_
  · intro wz hz
    (try dsimp only at hz)
    go_simp
    by_cases e1 : px = 0 <;> by_cases e2 : py = 1 <;> simp [e1, e2] <;> exact (h.out ⟨e1, e2⟩).elim
  try simp only [Act.put, List.setIfInBounds_toArray, List.set_cons_zero, List.set_cons_succ]
  refine tk 4 hHeld ?_; refine tk 5 hHeld ?_; refine tk 6 hHeld ?_
  refine stepH 7 (by kernel_rfl) rfl (by rfl) (fun K hK => ?_)
  go_simp
  refine (hIA.out _).mono ?_
  rintro e wc2 ⟨rfl, hbc2⟩
  have hrc2 := HR.next hHeld.2.2.2.2.2 hbc2
  refine hK.out _ _ ?_ (fun hHeld => ?_)
  · exact ⟨HR.cell hrc2 (b := b5) (cs := #[.int .u64 ax, .int .u64 ay, .int .u64 z]) (t := 35) (by simp) 0 rfl, HR.cell hrc2 (b := b5) (cs := #[.int .u64 ax, .int .u64 ay, .int .u64 z]) (t := 35) (by simp) 1 rfl, HR.cell hrc2 (b := b5) (cs := #[.int .u64 ax, .int .u64 ay, .int .u64 z]) (t := 35) (by simp) 2 rfl, HR.cell hrc2 (b := b3) (cs := #[.int .u64 px, .int .u64 py]) (t := 24) (by simp) 0 rfl, HR.cell hrc2 (b := b3) (cs := #[.int .u64 px, .int .u64 py]) (t := 24) (by simp) 1 rfl, hrc2⟩
  clear hK K
  try simp only [Act.put, List.setIfInBounds_toArray, List.set_cons_zero, List.set_cons_succ]
  refine tk 8 hHeld ?_; refine tk 9 hHeld ?_; refine tk 10 hHeld ?_; refine tk 11 hHeld ?_
  refine stepH 12 (by kernel_rfl) rfl (by rfl) (fun K hK => ?_)
  go_simp
  refine (hIP.out _).mono ?_
  rintro e wc3 ⟨rfl, hbc3⟩
  have hrc3 := HR.next hHeld.2.2.2.2.2 hbc3
  refine hK.out _ _ ?_ (fun hHeld => ?_)
  · exact ⟨HR.cell hrc3 (b := b5) (cs := #[.int .u64 ax, .int .u64 ay, .int .u64 z]) (t := 35) (by simp) 0 rfl, HR.cell hrc3 (b := b5) (cs := #[.int .u64 ax, .int .u64 ay, .int .u64 z]) (t := 35) (by simp) 1 rfl, HR.cell hrc3 (b := b5) (cs := #[.int .u64 ax, .int .u64 ay, .int .u64 z]) (t := 35) (by simp) 2 rfl, HR.cell hrc3 (b := b3) (cs := #[.int .u64 px, .int .u64 py]) (t := 24) (by simp) 0 rfl, HR.cell hrc3 (b := b3) (cs := #[.int .u64 px, .int .u64 py]) (t := 24) (by simp) 1 rfl, hrc3⟩
  clear hK K
  try simp only [Act.put, List.setIfInBounds_toArray, List.set_cons_zero, List.set_cons_succ]
  refine tk 13 hHeld ?_; refine tk 14 hHeld ?_; refine tk 15 hHeld ?_; refine tk 16 hHeld ?_; refine tk 17 hHeld ?_; refine tk 18 hHeld ?_; refine tk 19 hHeld ?_
  refine wpAnyH_done (by kernel_rfl) (NoPanic.normal ?_) _
  have H1 := Lib.hid (hHeld.2.2.2.2.2)
  clear hHeld H0
  have c_b5_0 := H1.out.cell (b := b5) (cs := #[.int .u64 ax, .int .u64 ay, .int .u64 z]) (t := 35) (by simp) 0 rfl
  have c_b5_1 := H1.out.cell (b := b5) (cs := #[.int .u64 ax, .int .u64 ay, .int .u64 z]) (t := 35) (by simp) 1 rfl
  have c_b5_2 := H1.out.cell (b := b5) (cs := #[.int .u64 ax, .int .u64 ay, .int .u64 z]) (t := 35) (by simp) 2 rfl
  have c_b3_0 := H1.out.cell (b := b3) (cs := #[.int .u64 px, .int .u64 py]) (t := 24) (by simp) 0 rfl
  have c_b3_1 := H1.out.cell (b := b3) (cs := #[.int .u64 px, .int .u64 py]) (t := 24) (by simp) 1 rfl
  go_wp2_with fail
  have hrn := HR.new H1.out #[.int .u64 ax, .int .u64 ay, .int .u64 px, .int .u64 py] 24
  have hrow := hrn.row (List.mem_cons_self ..)
  refine (hcQ.out _ hrn.2 _ hrow).mono ?_
  rintro e w5 ⟨rfl, hb5⟩
  have H5 := Lib.hid ((HR.next hrn hb5).tail)
  clear hb5 hrow hrn H1
  clear c_b5_0 c_b5_1 c_b5_2 c_b3_0 c_b3_1
  have c_b5_0 := H5.out.cell (b := b5) (cs := #[.int .u64 ax, .int .u64 ay, .int .u64 z]) (t := 35) (by simp) 0 rfl
  have c_b5_1 := H5.out.cell (b := b5) (cs := #[.int .u64 ax, .int .u64 ay, .int .u64 z]) (t := 35) (by simp) 1 rfl
  have c_b5_2 := H5.out.cell (b := b5) (cs := #[.int .u64 ax, .int .u64 ay, .int .u64 z]) (t := 35) (by simp) 2 rfl
  have c_b3_0 := H5.out.cell (b := b3) (cs := #[.int .u64 px, .int .u64 py]) (t := 24) (by simp) 0 rfl
  have c_b3_1 := H5.out.cell (b := b3) (cs := #[.int .u64 px, .int .u64 py]) (t := 24) (by simp) 1 rfl
  go_wp2_with fail
  refine wp_region_noPanic ?_
  refine wp_region_held_drew (S := fun wq => wq.cell? ⟨b5, 0, none⟩ = some (.int .u64 ax) ∧ wq.cell? ⟨b5, 1, none⟩ = some (.int .u64 ay) ∧ wq.cell? ⟨b5, 2, none⟩ = some (.int .u64 z) ∧ wq.cell? ⟨b3, 0, none⟩ = some (.int .u64 px) ∧ wq.cell? ⟨b3, 1, none⟩ = some (.int .u64 py) ∧ HR w wq [(b5, #[.int .u64 ax, .int .u64 ay, .int .u64 z], 35), (b3, #[.int .u64 px, .int .u64 py], 24)]) (by kernel_rfl) ?_ (fun hHeld => ?_)
  · have hq0 := HR.drew H5.out
    exact ⟨HR.cell hq0 (b := b5) (cs := #[.int .u64 ax, .int .u64 ay, .int .u64 z]) (t := 35) (by simp) 0 rfl, HR.cell hq0 (b := b5) (cs := #[.int .u64 ax, .int .u64 ay, .int .u64 z]) (t := 35) (by simp) 1 rfl, HR.cell hq0 (b := b5) (cs := #[.int .u64 ax, .int .u64 ay, .int .u64 z]) (t := 35) (by simp) 2 rfl, HR.cell hq0 (b := b3) (cs := #[.int .u64 px, .int .u64 py]) (t := 24) (by simp) 0 rfl, HR.cell hq0 (b := b3) (cs := #[.int .u64 px, .int .u64 py]) (t := 24) (by simp) 1 rfl, hq0⟩
  refine tk 0 hHeld ?_; refine tk 1 hHeld ?_; refine tk 2 hHeld ?_; refine tk 3 hHeld ?_; refine tk 4 hHeld ?_; refine tk 6 hHeld ?_; refine tk 7 hHeld ?_; refine tk 8 hHeld ?_; refine tk 9 hHeld ?_
  refine stepH 5 (by kernel_rfl) rfl (by rfl) (fun K hK => ?_)
  go_simp
  refine (hcZ.out _).mono ?_
  rintro e wc1 ⟨rfl, hbc1⟩
  have hrc1 := HR.next hHeld.2.2.2.2.2 hbc1
  refine hK.out _ _ ?_ (fun hHeld => ?_)
  · exact ⟨HR.cell hrc1 (b := b5) (cs := #[.int .u64 ax, .int .u64 ay, .int .u64 z]) (t := 35) (by simp) 0 rfl, HR.cell hrc1 (b := b5) (cs := #[.int .u64 ax, .int .u64 ay, .int .u64 z]) (t := 35) (by simp) 1 rfl, HR.cell hrc1 (b := b5) (cs := #[.int .u64 ax, .int .u64 ay, .int .u64 z]) (t := 35) (by simp) 2 rfl, HR.cell hrc1 (b := b3) (cs := #[.int .u64 px, .int .u64 py]) (t := 24) (by simp) 0 rfl, HR.cell hrc1 (b := b3) (cs := #[.int .u64 px, .int .u64 py]) (t := 24) (by simp) 1 rfl, hrc1⟩
  clear hK K
  try simp only [Act.put, List.setIfInBounds_toArray, List.set_cons_zero, List.set_cons_succ]
  refine stepH 10 (by kernel_rfl) rfl (by rfl) (fun K hK => ?_)
  go_simp
  refine (hcM.out _).mono ?_
  rintro e wc2 ⟨rfl, hbc2⟩
  have hrc2 := HR.next hHeld.2.2.2.2.2 hbc2
  refine hK.out _ _ ?_ (fun hHeld => ?_)
  · exact ⟨HR.cell hrc2 (b := b5) (cs := #[.int .u64 ax, .int .u64 ay, .int .u64 z]) (t := 35) (by simp) 0 rfl, HR.cell hrc2 (b := b5) (cs := #[.int .u64 ax, .int .u64 ay, .int .u64 z]) (t := 35) (by simp) 1 rfl, HR.cell hrc2 (b := b5) (cs := #[.int .u64 ax, .int .u64 ay, .int .u64 z]) (t := 35) (by simp) 2 rfl, HR.cell hrc2 (b := b3) (cs := #[.int .u64 px, .int .u64 py]) (t := 24) (by simp) 0 rfl, HR.cell hrc2 (b := b3) (cs := #[.int .u64 px, .int .u64 py]) (t := 24) (by simp) 1 rfl, hrc2⟩
  clear hK K
  try simp only [Act.put, List.setIfInBounds_toArray, List.set_cons_zero, List.set_cons_succ]
  refine stepH 11 (by kernel_rfl) rfl (by rfl) (fun K hK => ?_)
  go_simp
  refine (hcS.out _).mono ?_
  rintro e wc3 ⟨rfl, hbc3⟩
  have hrc3 := HR.next hHeld.2.2.2.2.2 hbc3
  refine hK.out _ _ ?_ (fun hHeld => ?_)
  · exact ⟨HR.cell hrc3 (b := b5) (cs := #[.int .u64 ax, .int .u64 ay, .int .u64 z]) (t := 35) (by simp) 0 rfl, HR.cell hrc3 (b := b5) (cs := #[.int .u64 ax, .int .u64 ay, .int .u64 z]) (t := 35) (by simp) 1 rfl, HR.cell hrc3 (b := b5) (cs := #[.int .u64 ax, .int .u64 ay, .int .u64 z]) (t := 35) (by simp) 2 rfl, HR.cell hrc3 (b := b3) (cs := #[.int .u64 px, .int .u64 py]) (t := 24) (by simp) 0 rfl, HR.cell hrc3 (b := b3) (cs := #[.int .u64 px, .int .u64 py]) (t := 24) (by simp) 1 rfl, hrc3⟩
  clear hK K
  try simp only [Act.put, List.setIfInBounds_toArray, List.set_cons_zero, List.set_cons_succ]
  refine tk 12 hHeld ?_; refine tk 13 hHeld ?_
  refine wpAnyH_done (by kernel_rfl) (NoPanic.normal ?_) _
  have HB := Lib.hid (hHeld.2.2.2.2.2.2)
  clear hHeld
  go_wp2_with fail
  go_ret
  exact ⟨rfl, HB.out⟩
set_option maxRecDepth 8000 in
set_option maxHeartbeats 4000000 in
theorem sVerN (px py ax ay z : Int) (px0 : 0 ≤ px) (py0 : 0 ≤ py) (ax0 : 0 ≤ ax) (ay0 : 0 ≤ ay) (z0 : 0 ≤ z) (z1 : z ≤ 18446744073709551615) (ao : Option Addr) (len cap : Nat)  (h : ¬ (px = 0 ∧ py = 1)) (A P : Obol.Pt) (hvA : edP A = edV ax ay) (hvP : edP P = edV px py) (hSA : Obol.Pnt.smul 72057593894066549 A = Obol.Pnt.zero) (hSP : Obol.Pnt.smul 72057593894066549 P = Obol.Pnt.zero) (hz : z < 72057593894066549)
    (M : List Nat) (HM : B8 len M) (hl : len ≤ 10000) (hC : Obol.Pnt.smul z.toNat Obol.G ≠ A.add (Obol.Pnt.smul (Obol.quesP A P M) P)) (w : World) (hS0 : SlI w.heap.size w ao cap M) (hG0 : RowsAt w) :
    Calls Tryz.prog 14 #[edV px py, .slice ao len cap, .agg #[.int .u64 ax, .int .u64 ay, .int .u64 z]] w fun e w' => e = .returned (errC 10) ∧ Below w.heap.size w w' := by
  have hnA : (ax.toNat, ay.toNat) = A.n := n_of hvA ax0 ay0
  have hnP : (px.toNat, py.toNat) = P.n := n_of hvP px0 py0
  have hIA := Lib.hid (gIn ax ay ax0 ay0 A hvA hSA)
  have hIP := Lib.hid (gIn px py px0 py0 P hvP hSP)
  have hcQ := Lib.hid (fun W (hw : Below w.heap.size w W) gb hR => sQues ao len cap M HM (by omega) gb ax ay px py ax0 ay0 px0 py0 (by rw [hnA]; exact Obol.pt_isN A) (by rw [hnP]; exact Obol.pt_isN P) W (hS0.at hw) hR (hG0.below hw))
  rw [hnA, hnP] at hcQ
  change Hid (∀ W, Below w.heap.size w W → ∀ gb, _ → Calls _ _ _ W fun e w' => e = .returned (.tuple #[.int .u64 ((Obol.quesP A P M : Nat) : Int), .nilIface]) ∧ _) at hcQ
  have hqlt := quesP_lt A P M
  generalize hq0 : Obol.quesP A P M = q0 at hcQ hqlt hC
  obtain ⟨q, hq⟩ : ∃ q : Int, ((q0 : Nat) : Int) = q := ⟨_, rfl⟩
  have q0' : 0 ≤ q := by omega
  rw [hq] at hcQ
  have hcZ := fun w => sPoint z z0 z1 w
  have hcM := fun w => gMul px py q px0 py0 q0' (by omega) w
  rw [hnP, Obol.of_n, show q.toNat = q0 by omega] at hcM
  obtain ⟨mx, my, mx0, my0, -, -, hvM, hnM⟩ := coordsN (Obol.Pnt.smul q0 P)
  rw [hvM] at hcM
  have hcS := fun w => gAdd ax ay mx my ax0 ay0 mx0 my0 w
  rw [hnA, hnM, Obol.of_n, Obol.of_n] at hcS
  obtain ⟨sx, sy, -, -, -, -, hvS, hnS⟩ := coordsN (A.add (Obol.Pnt.smul q0 P))
  obtain ⟨tx, ty, tx0, ty0, -, -, hvT, hnT⟩ := coordsN (Obol.Pnt.smul z.toNat Obol.G)
  rw [hvS] at hcS
  rw [hvT] at hcZ
  have hne : ¬ (tx = sx ∧ ty = sy) := fun he => hC (Obol.Pnt.n_inj (by rw [← hnS, ← hnT, he.1, he.2]))
  replace hcS := Lib.hid hcS
  replace hcZ := Lib.hid hcZ
  replace hcM := Lib.hid hcM
  clear hvS hvM hnM hC hnA hnP hq0 hq hqlt hvA hvP hSA hSP HM hS0 hG0 hvT hnS hnT
  replace hne := Lib.hid hne
  replace h := Lib.hid h
  go_enter Tryz.func14, Tryz.ntmps14
  go_wp2_with fail
  have H0 := Lib.hid (((HR.refl w).new #[.int .u64 px, .int .u64 py] 24).new #[.int .u64 ax, .int .u64 ay, .int .u64 z] 35)
  rw [World.size_alloc] at H0
  generalize (w.alloc (.cells #[.int .u64 px, .int .u64 py] 24)).alloc (.cells #[.int .u64 ax, .int .u64 ay, .int .u64 z] 35) = w2 at H0 ⊢
  generalize w.heap.size + 1 = b5 at H0 ⊢
  generalize hb3 : w.heap.size = b3 at H0 ⊢
  replace hb3 := Lib.hid hb3
  refine wp_region_noPanic ?_
  refine wp_region_held_drew (S := fun wq => wq.cell? ⟨b5, 0, none⟩ = some (.int .u64 ax) ∧ wq.cell? ⟨b5, 1, none⟩ = some (.int .u64 ay) ∧ wq.cell? ⟨b5, 2, none⟩ = some (.int .u64 z) ∧ wq.cell? ⟨b3, 0, none⟩ = some (.int .u64 px) ∧ wq.cell? ⟨b3, 1, none⟩ = some (.int .u64 py) ∧ HR w wq [(b5, #[.int .u64 ax, .int .u64 ay, .int .u64 z], 35), (b3, #[.int .u64 px, .int .u64 py], 24)]) (by kernel_rfl) ?_ (fun hHeld => ?_)
  · have hq0 := HR.drew H0.out
    exact ⟨HR.cell hq0 (b := b5) (cs := #[.int .u64 ax, .int .u64 ay, .int .u64 z]) (t := 35) (by simp) 0 rfl, HR.cell hq0 (b := b5) (cs := #[.int .u64 ax, .int .u64 ay, .int .u64 z]) (t := 35) (by simp) 1 rfl, HR.cell hq0 (b := b5) (cs := #[.int .u64 ax, .int .u64 ay, .int .u64 z]) (t := 35) (by simp) 2 rfl, HR.cell hq0 (b := b3) (cs := #[.int .u64 px, .int .u64 py]) (t := 24) (by simp) 0 rfl, HR.cell hq0 (b := b3) (cs := #[.int .u64 px, .int .u64 py]) (t := 24) (by simp) 1 rfl, hq0⟩
  refine tk 0 hHeld ?_; refine tk 1 hHeld ?_
  refine stepH 2 (by kernel_rfl) rfl (by rfl) (fun K hK => ?_)
  go_simp
  refine (mulZero px py px0 py0 _).mono ?_
  rintro e wc1 ⟨rfl, hbc1⟩
  have hrc1 := HR.next hHeld.2.2.2.2.2 hbc1
  refine hK.out _ _ ?_ (fun hHeld => ?_)
  · exact ⟨HR.cell hrc1 (b := b5) (cs := #[.int .u64 ax, .int .u64 ay, .int .u64 z]) (t := 35) (by simp) 0 rfl, HR.cell hrc1 (b := b5) (cs := #[.int .u64 ax, .int .u64 ay, .int .u64 z]) (t := 35) (by simp) 1 rfl, HR.cell hrc1 (b := b5) (cs := #[.int .u64 ax, .int .u64 ay, .int .u64 z]) (t := 35) (by simp) 2 rfl, HR.cell hrc1 (b := b3) (cs := #[.int .u64 px, .int .u64 py]) (t := 24) (by simp) 0 rfl, HR.cell hrc1 (b := b3) (cs := #[.int .u64 px, .int .u64 py]) (t := 24) (by simp) 1 rfl, hrc1⟩
  clear hK K
  try simp only [Act.put, List.setIfInBounds_toArray, List.set_cons_zero, List.set_cons_succ]
  refine takeH 3 (fun _ _ _ _ _ h => h) (by kernel_rfl) hHeld rfl (by kernel_rfl) (by rfl) (v := .bool false) ?_ ?_
  · intro wz hz
    (try dsimp only at hz)
    go_simp
    by_cases e1 : px = 0 <;> by_cases e2 : py = 1 <;> simp [e1, e2] <;> exact (h.out ⟨e1, e2⟩).elim
  try simp only [Act.put, List.setIfInBounds_toArray, List.set_cons_zero, List.set_cons_succ]
  refine tk 4 hHeld ?_; refine tk 5 hHeld ?_; refine tk 6 hHeld ?_
  refine stepH 7 (by kernel_rfl) rfl (by rfl) (fun K hK => ?_)
  go_simp
  refine (hIA.out _).mono ?_
  rintro e wc2 ⟨rfl, hbc2⟩
  have hrc2 := HR.next hHeld.2.2.2.2.2 hbc2
  refine hK.out _ _ ?_ (fun hHeld => ?_)
  · exact ⟨HR.cell hrc2 (b := b5) (cs := #[.int .u64 ax, .int .u64 ay, .int .u64 z]) (t := 35) (by simp) 0 rfl, HR.cell hrc2 (b := b5) (cs := #[.int .u64 ax, .int .u64 ay, .int .u64 z]) (t := 35) (by simp) 1 rfl, HR.cell hrc2 (b := b5) (cs := #[.int .u64 ax, .int .u64 ay, .int .u64 z]) (t := 35) (by simp) 2 rfl, HR.cell hrc2 (b := b3) (cs := #[.int .u64 px, .int .u64 py]) (t := 24) (by simp) 0 rfl, HR.cell hrc2 (b := b3) (cs := #[.int .u64 px, .int .u64 py]) (t := 24) (by simp) 1 rfl, hrc2⟩
  clear hK K
  try simp only [Act.put, List.setIfInBounds_toArray, List.set_cons_zero, List.set_cons_succ]
  refine tk 8 hHeld ?_; refine tk 9 hHeld ?_; refine tk 10 hHeld ?_; refine tk 11 hHeld ?_
  refine stepH 12 (by kernel_rfl) rfl (by rfl) (fun K hK => ?_)
  go_simp
  refine (hIP.out _).mono ?_
  rintro e wc3 ⟨rfl, hbc3⟩
  have hrc3 := HR.next hHeld.2.2.2.2.2 hbc3
  refine hK.out _ _ ?_ (fun hHeld => ?_)
  · exact ⟨HR.cell hrc3 (b := b5) (cs := #[.int .u64 ax, .int .u64 ay, .int .u64 z]) (t := 35) (by simp) 0 rfl, HR.cell hrc3 (b := b5) (cs := #[.int .u64 ax, .int .u64 ay, .int .u64 z]) (t := 35) (by simp) 1 rfl, HR.cell hrc3 (b := b5) (cs := #[.int .u64 ax, .int .u64 ay, .int .u64 z]) (t := 35) (by simp) 2 rfl, HR.cell hrc3 (b := b3) (cs := #[.int .u64 px, .int .u64 py]) (t := 24) (by simp) 0 rfl, HR.cell hrc3 (b := b3) (cs := #[.int .u64 px, .int .u64 py]) (t := 24) (by simp) 1 rfl, hrc3⟩
  clear hK K
  try simp only [Act.put, List.setIfInBounds_toArray, List.set_cons_zero, List.set_cons_succ]
  refine tk 13 hHeld ?_; refine tk 14 hHeld ?_; refine tk 15 hHeld ?_; refine tk 16 hHeld ?_; refine tk 17 hHeld ?_; refine tk 18 hHeld ?_; refine tk 19 hHeld ?_
  refine wpAnyH_done (by kernel_rfl) (NoPanic.normal ?_) _
  have H1 := Lib.hid (hHeld.2.2.2.2.2)
  clear hHeld H0
  have c_b5_0 := H1.out.cell (b := b5) (cs := #[.int .u64 ax, .int .u64 ay, .int .u64 z]) (t := 35) (by simp) 0 rfl
  have c_b5_1 := H1.out.cell (b := b5) (cs := #[.int .u64 ax, .int .u64 ay, .int .u64 z]) (t := 35) (by simp) 1 rfl
  have c_b5_2 := H1.out.cell (b := b5) (cs := #[.int .u64 ax, .int .u64 ay, .int .u64 z]) (t := 35) (by simp) 2 rfl
  have c_b3_0 := H1.out.cell (b := b3) (cs := #[.int .u64 px, .int .u64 py]) (t := 24) (by simp) 0 rfl
  have c_b3_1 := H1.out.cell (b := b3) (cs := #[.int .u64 px, .int .u64 py]) (t := 24) (by simp) 1 rfl
  go_wp2_with fail
  have hrn := HR.new H1.out #[.int .u64 ax, .int .u64 ay, .int .u64 px, .int .u64 py] 24
  have hrow := hrn.row (List.mem_cons_self ..)
  refine (hcQ.out _ hrn.2 _ hrow).mono ?_
  rintro e w5 ⟨rfl, hb5⟩
  have H5 := Lib.hid ((HR.next hrn hb5).tail)
  clear hb5 hrow hrn H1
  clear c_b5_0 c_b5_1 c_b5_2 c_b3_0 c_b3_1
  have c_b5_0 := H5.out.cell (b := b5) (cs := #[.int .u64 ax, .int .u64 ay, .int .u64 z]) (t := 35) (by simp) 0 rfl
  have c_b5_1 := H5.out.cell (b := b5) (cs := #[.int .u64 ax, .int .u64 ay, .int .u64 z]) (t := 35) (by simp) 1 rfl
  have c_b5_2 := H5.out.cell (b := b5) (cs := #[.int .u64 ax, .int .u64 ay, .int .u64 z]) (t := 35) (by simp) 2 rfl
  have c_b3_0 := H5.out.cell (b := b3) (cs := #[.int .u64 px, .int .u64 py]) (t := 24) (by simp) 0 rfl
  have c_b3_1 := H5.out.cell (b := b3) (cs := #[.int .u64 px, .int .u64 py]) (t := 24) (by simp) 1 rfl
  go_wp2_with fail
  refine wp_region_noPanic ?_
  refine wp_region_held_drew (S := fun wq => wq.cell? ⟨b5, 0, none⟩ = some (.int .u64 ax) ∧ wq.cell? ⟨b5, 1, none⟩ = some (.int .u64 ay) ∧ wq.cell? ⟨b5, 2, none⟩ = some (.int .u64 z) ∧ wq.cell? ⟨b3, 0, none⟩ = some (.int .u64 px) ∧ wq.cell? ⟨b3, 1, none⟩ = some (.int .u64 py) ∧ HR w wq [(b5, #[.int .u64 ax, .int .u64 ay, .int .u64 z], 35), (b3, #[.int .u64 px, .int .u64 py], 24)]) (by kernel_rfl) ?_ (fun hHeld => ?_)
  · have hq0 := HR.drew H5.out
    exact ⟨HR.cell hq0 (b := b5) (cs := #[.int .u64 ax, .int .u64 ay, .int .u64 z]) (t := 35) (by simp) 0 rfl, HR.cell hq0 (b := b5) (cs := #[.int .u64 ax, .int .u64 ay, .int .u64 z]) (t := 35) (by simp) 1 rfl, HR.cell hq0 (b := b5) (cs := #[.int .u64 ax, .int .u64 ay, .int .u64 z]) (t := 35) (by simp) 2 rfl, HR.cell hq0 (b := b3) (cs := #[.int .u64 px, .int .u64 py]) (t := 24) (by simp) 0 rfl, HR.cell hq0 (b := b3) (cs := #[.int .u64 px, .int .u64 py]) (t := 24) (by simp) 1 rfl, hq0⟩
  refine tk 0 hHeld ?_; refine tk 1 hHeld ?_; refine tk 2 hHeld ?_; refine tk 3 hHeld ?_; refine tk 4 hHeld ?_; refine tk 6 hHeld ?_; refine tk 7 hHeld ?_; refine tk 8 hHeld ?_; refine tk 9 hHeld ?_
  refine stepH 5 (by kernel_rfl) rfl (by rfl) (fun K hK => ?_)
  go_simp
  refine (hcZ.out _).mono ?_
  rintro e wc1 ⟨rfl, hbc1⟩
  have hrc1 := HR.next hHeld.2.2.2.2.2 hbc1
  refine hK.out _ _ ?_ (fun hHeld => ?_)
  · exact ⟨HR.cell hrc1 (b := b5) (cs := #[.int .u64 ax, .int .u64 ay, .int .u64 z]) (t := 35) (by simp) 0 rfl, HR.cell hrc1 (b := b5) (cs := #[.int .u64 ax, .int .u64 ay, .int .u64 z]) (t := 35) (by simp) 1 rfl, HR.cell hrc1 (b := b5) (cs := #[.int .u64 ax, .int .u64 ay, .int .u64 z]) (t := 35) (by simp) 2 rfl, HR.cell hrc1 (b := b3) (cs := #[.int .u64 px, .int .u64 py]) (t := 24) (by simp) 0 rfl, HR.cell hrc1 (b := b3) (cs := #[.int .u64 px, .int .u64 py]) (t := 24) (by simp) 1 rfl, hrc1⟩
  clear hK K
  try simp only [Act.put, List.setIfInBounds_toArray, List.set_cons_zero, List.set_cons_succ]
  refine stepH 10 (by kernel_rfl) rfl (by rfl) (fun K hK => ?_)
  go_simp
  refine (hcM.out _).mono ?_
  rintro e wc2 ⟨rfl, hbc2⟩
  have hrc2 := HR.next hHeld.2.2.2.2.2 hbc2
  refine hK.out _ _ ?_ (fun hHeld => ?_)
  · exact ⟨HR.cell hrc2 (b := b5) (cs := #[.int .u64 ax, .int .u64 ay, .int .u64 z]) (t := 35) (by simp) 0 rfl, HR.cell hrc2 (b := b5) (cs := #[.int .u64 ax, .int .u64 ay, .int .u64 z]) (t := 35) (by simp) 1 rfl, HR.cell hrc2 (b := b5) (cs := #[.int .u64 ax, .int .u64 ay, .int .u64 z]) (t := 35) (by simp) 2 rfl, HR.cell hrc2 (b := b3) (cs := #[.int .u64 px, .int .u64 py]) (t := 24) (by simp) 0 rfl, HR.cell hrc2 (b := b3) (cs := #[.int .u64 px, .int .u64 py]) (t := 24) (by simp) 1 rfl, hrc2⟩
  clear hK K
  try simp only [Act.put, List.setIfInBounds_toArray, List.set_cons_zero, List.set_cons_succ]
  refine stepH 11 (by kernel_rfl) rfl (by rfl) (fun K hK => ?_)
  go_simp
  refine (hcS.out _).mono ?_
  rintro e wc3 ⟨rfl, hbc3⟩
  have hrc3 := HR.next hHeld.2.2.2.2.2 hbc3
  refine hK.out _ _ ?_ (fun hHeld => ?_)
  · exact ⟨HR.cell hrc3 (b := b5) (cs := #[.int .u64 ax, .int .u64 ay, .int .u64 z]) (t := 35) (by simp) 0 rfl, HR.cell hrc3 (b := b5) (cs := #[.int .u64 ax, .int .u64 ay, .int .u64 z]) (t := 35) (by simp) 1 rfl, HR.cell hrc3 (b := b5) (cs := #[.int .u64 ax, .int .u64 ay, .int .u64 z]) (t := 35) (by simp) 2 rfl, HR.cell hrc3 (b := b3) (cs := #[.int .u64 px, .int .u64 py]) (t := 24) (by simp) 0 rfl, HR.cell hrc3 (b := b3) (cs := #[.int .u64 px, .int .u64 py]) (t := 24) (by simp) 1 rfl, hrc3⟩
  clear hK K
  try simp only [Act.put, List.setIfInBounds_toArray, List.set_cons_zero, List.set_cons_succ]
  refine takeH 12 (fun _ _ _ _ _ h => h) (by kernel_rfl) hHeld rfl (by kernel_rfl) (by rfl) (v := .bool true) ?_ ?_
  · intro wz hz
    (try dsimp only at hz)
    go_simp
    by_cases e1 : tx = sx <;> by_cases e2 : ty = sy <;> simp [e1, e2] <;> exact (hne.out ⟨e1, e2⟩).elim
  try simp only [Act.put, List.setIfInBounds_toArray, List.set_cons_zero, List.set_cons_succ]
  refine tk 13 hHeld ?_
  refine wpAnyH_done (by kernel_rfl) (NoPanic.normal ?_) _
  have HB := Lib.hid (hHeld.2.2.2.2.2.2)
  clear hHeld
  go_wp2_with fail
  go_ret
  exact ⟨rfl, HB.out⟩

end Go.Proofs.YtkfimfjjmdjbdaaGreatDoor
