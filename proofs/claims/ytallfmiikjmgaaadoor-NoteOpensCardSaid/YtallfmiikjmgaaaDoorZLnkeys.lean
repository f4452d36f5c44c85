import Derived.Test.YtallfmiikjmgaaaDoorZWref17
import Derived.Test.YtallfmiikjmgaaaDoorMB
set_option linter.unusedVariables false
set_option linter.unusedSimpArgs false
/- Walks: layer 17: keys. -/
namespace Go.Proofs.YtallfmiikjmgaaaDoor
open Go.RowKit

theorem gp_is : Obol.isN GP = true := by rw [Obol.isN_eq]; decide +kernel
theorem r7MulN (x y k : Int) (x0 : 0 ≤ x) (y0 : 0 ≤ y) (k0 : 0 ≤ k) (k1 : k ≤ 18446744073709551615) (h : Obol.isN (x.toNat, y.toNat) = true) (w : World) :
    Calls Tryd.prog 16 #[edV x y, .int .u64 k] w fun e w' => e = .returned (edV ((Obol.smulN (x.toNat, y.toNat) k.toNat).1 : Nat) ((Obol.smulN (x.toNat, y.toNat) k.toNat).2 : Nat)) ∧ Below w.heap.size w w' := by
  have hc := r7Times x y k x0 y0 k0 k1 w
  have e := times_is (x.toNat, y.toNat) k.toNat (by omega)
  rw [sure_of h] at e
  rw [e] at hc
  exact hc
theorem r7Gen' (w : World) :
    Calls Tryd.prog 17 #[] w fun e w' => e = .returned (edV 223588670687113535 82055451961885530) ∧ Below w.heap.size w w' := by
  go_enter Tryd.func17, Tryd.ntmps17
  go_wp2_with fail
  refine bodyPost_ret (v := edV 223588670687113535 82055451961885530) (by simp [results, Tryd.results17, go_sem]) rfl ⟨rfl, ?_⟩
  exact bAlloc (Below.refl _ w) _
set_option maxRecDepth 8000 in
set_option maxHeartbeats 2000000 in
theorem walkKeysN (w : World) (G : Hid (RowsAt w)) (k : Int) (k0 : 0 ≤ k) (h : ¬ (1 ≤ k ∧ k < 288230376287764481)) :
    Calls Tryd.prog 3 #[.int .u64 k] w fun e w' => e = .returned (.bool true) ∧ Below w.heap.size w w' := by
  have cH := Lib.hid (fun w => nHideN k h w)
  have cA := Lib.hid (fun w => nAddrN k h w)
  have cK := Lib.hid (fun w => r17KeyN k k0 h w)
  have hE := fun W => eqErrC W 1 1
  clear h
  go_enter Tryd.func3, Tryd.ntmps3
  go_wp2_with fail
  refine (up17 _ G.out).mono ?_
  rintro e' w1 ⟨rfl, hb1⟩
  have H1 := Lib.hid ((HR.refl w).next hb1)
  clear hb1
  go_wp2_with fail
  refine (cH.out _).mono ?_
  rintro e' w2 ⟨rfl, rfl⟩
  go_wp2_with fail
  refine (cA.out _).mono ?_
  rintro e' w2 ⟨rfl, hb2⟩
  have H2 := Lib.hid (H1.out.next hb2)
  clear hb2 H1
  go_upto_region 4 with fail
  have hn := (H2.out).new #[.int .u64 0, .int .u64 0, .int .u64 0] 31
  generalize w2.alloc (.cells #[.int .u64 0, .int .u64 0, .int .u64 0] 31) = w3 at hn ⊢
  obtain ⟨ba, hba⟩ : ∃ z, w2.heap.size = z := ⟨_, rfl⟩
  rw [hba] at hn ⊢
  have H3 : Hid (HR w w3 [(ba, #[.int .u64 0, .int .u64 0, .int .u64 0], 31)]) := Lib.hid hn
  replace hba := Lib.hid hba
  clear hn H2
  have c_ba_0 := H3.out.cell (b := ba) (cs := #[.int .u64 0, .int .u64 0, .int .u64 0]) (t := 31) (by simp) 0 rfl
  have c_ba_1 := H3.out.cell (b := ba) (cs := #[.int .u64 0, .int .u64 0, .int .u64 0]) (t := 31) (by simp) 1 rfl
  have c_ba_2 := H3.out.cell (b := ba) (cs := #[.int .u64 0, .int .u64 0, .int .u64 0]) (t := 31) (by simp) 2 rfl
  go_wp2_with fail
  refine (cK.out _).mono ?_
  rintro e' w4 ⟨rfl, rfl⟩
  go_wp2_with fail
  go_ret
  exact ⟨by simp, H3.out.2⟩
set_option maxRecDepth 8000 in
set_option maxHeartbeats 4000000 in
theorem walkKeysY (w : World) (G : Hid (RowsAt w)) (k : Int) (h : 1 ≤ k ∧ k < 288230376287764481) :
    Calls Tryd.prog 3 #[.int .u64 k] w fun e w' => e = .returned (.bool true) ∧ Below w.heap.size w w' := by
  have cH := fun w => nHideY k h.1 h.2 w
  have cA := fun w => nAddrY k h.1 h.2 w
  have cK := Lib.hid (fun w => r17KeyY k h.1 h.2 w)
  have cI := fun w => r10Two k 1 (by omega) (by omega) w
  have cO := fun w => r10Two k 2 (by omega) (by omega) w
  have cS := fun w => r17Scalar k (by omega) w
  have cT := fun w => r7MulN 223588670687113535 82055451961885530 ((Obol.scN k.toNat : Nat) : Int) (by omega) (by omega) (by omega) (by have := scN_lt k.toNat; omega) gp_is w
  obtain ⟨px, py, px0, py0, pxR, pyR, hpx, hpy, -⟩ := mul_pt GP (Obol.scN k.toNat)
  simp only [Int.toNat_natCast] at cT
  rw [hpx, hpy] at cT
  obtain ⟨i, hi⟩ : ∃ z : Int, ((Obol.twoN k.toNat (1 : Int).toNat : Nat) : Int) = z := ⟨_, rfl⟩
  obtain ⟨t, ht⟩ : ∃ z : Int, ((Obol.twoN k.toNat (2 : Int).toNat : Nat) : Int) = z := ⟨_, rfl⟩
  have hi2 : ((Obol.twoN k.toNat 1 : Nat) : Int) = i := hi
  have ht2 : ((Obol.twoN k.toNat 2 : Nat) : Int) = t := ht
  obtain ⟨s, hs⟩ : ∃ s : Int, ((Obol.scN k.toNat : Nat) : Int) = s := ⟨_, rfl⟩
  simp only [hi2] at cH
  simp only [ht2, hpx, hpy] at cA
  rw [hi] at cI
  rw [ht] at cO
  rw [hs] at cS cT
  replace cH := Lib.hid cH
  replace cA := Lib.hid cA
  replace cI := Lib.hid cI
  replace cO := Lib.hid cO
  replace cS := Lib.hid cS
  replace cT := Lib.hid cT
  clear hi ht hi2 ht2 hs hpx hpy h
  go_enter Tryd.func3, Tryd.ntmps3
  go_wp2_with fail
  refine (up17 _ G.out).mono ?_
  rintro e' w1 ⟨rfl, hb1⟩
  have H1 := Lib.hid ((HR.refl w).next hb1)
  clear hb1
  go_wp2_with fail
  refine (cH.out _).mono ?_
  rintro e' w1' ⟨rfl, hb1⟩
  have H1' := Lib.hid (H1.out.next hb1)
  clear hb1 H1
  go_wp2_with fail
  refine (cA.out _).mono ?_
  rintro e' w2 ⟨px', py', rfl, -, -, -, -, rfl, rfl, hb2⟩
  have H2 := Lib.hid (H1'.out.next hb2)
  clear hb2 H1'
  go_upto_region 4 with fail
  have hn := (H2.out).new #[.int .u64 t, .int .u64 px, .int .u64 py] 31
  generalize w2.alloc (.cells #[.int .u64 t, .int .u64 px, .int .u64 py] 31) = w3 at hn ⊢
  obtain ⟨ba, hba⟩ : ∃ z, w2.heap.size = z := ⟨_, rfl⟩
  rw [hba] at hn ⊢
  have H3 : Hid (HR w w3 [(ba, #[.int .u64 t, .int .u64 px, .int .u64 py], 31)]) := Lib.hid hn
  replace hba := Lib.hid hba
  clear hn H2
  have c_ba_0 := H3.out.cell (b := ba) (cs := #[.int .u64 t, .int .u64 px, .int .u64 py]) (t := 31) (by simp) 0 rfl
  have c_ba_1 := H3.out.cell (b := ba) (cs := #[.int .u64 t, .int .u64 px, .int .u64 py]) (t := 31) (by simp) 1 rfl
  have c_ba_2 := H3.out.cell (b := ba) (cs := #[.int .u64 t, .int .u64 px, .int .u64 py]) (t := 31) (by simp) 2 rfl
  go_wp2_with fail
  refine (cK.out _).mono ?_
  rintro e' w4 ⟨rfl, rfl⟩
  have H4 := H3
  go_upto_region 7 with fail
  clear c_ba_0 c_ba_1 c_ba_2
  refine wp_region_noPanic ?_
  refine wp_region_held_drew (S := fun wq => wq.cell? ⟨ba, 0, none⟩ = some (.int .u64 t) ∧ wq.cell? ⟨ba, 1, none⟩ = some (.int .u64 px) ∧ wq.cell? ⟨ba, 2, none⟩ = some (.int .u64 py) ∧ HR w wq [(ba, #[.int .u64 t, .int .u64 px, .int .u64 py], 31)]) (by kernel_rfl) ?_ (fun hHeld => ?_)
  · have hq0 := HR.drew H4.out
    exact ⟨HR.cell hq0 (b := ba) (cs := #[.int .u64 t, .int .u64 px, .int .u64 py]) (t := 31) (by simp) 0 rfl, HR.cell hq0 (b := ba) (cs := #[.int .u64 t, .int .u64 px, .int .u64 py]) (t := 31) (by simp) 1 rfl, HR.cell hq0 (b := ba) (cs := #[.int .u64 t, .int .u64 px, .int .u64 py]) (t := 31) (by simp) 2 rfl, hq0⟩
  refine takeH 0 (fun _ _ _ _ _ h => h) (by kernel_rfl) hHeld rfl (by kernel_rfl) (by rfl) (v := ?_) ?_ ?_
  rotate_left
  ((intro wz hz; (try dsimp only at hz); go_simp) <;> with_reducible rfl)
  try simp only [Act.put, List.setIfInBounds_toArray, List.set_cons_zero, List.set_cons_succ]
  refine takeH 1 (fun _ _ _ _ _ h => h) (by kernel_rfl) hHeld rfl (by kernel_rfl) (by rfl) (v := ?_) ?_ ?_
  rotate_left
  ((intro wz hz; (try dsimp only at hz); go_simp) <;> with_reducible rfl)
  try simp only [Act.put, List.setIfInBounds_toArray, List.set_cons_zero, List.set_cons_succ]
  refine takeH 2 (fun _ _ _ _ _ h => h) (by kernel_rfl) hHeld rfl (by kernel_rfl) (by rfl) (v := ?_) ?_ ?_
  rotate_left
  ((intro wz hz; (try dsimp only at hz); go_simp) <;> with_reducible rfl)
  try simp only [Act.put, List.setIfInBounds_toArray, List.set_cons_zero, List.set_cons_succ]
  refine takeH 3 (fun _ _ _ _ _ h => h) (by kernel_rfl) hHeld rfl (by kernel_rfl) (by rfl) (v := ?_) ?_ ?_
  rotate_left
  ((intro wz hz; (try dsimp only at hz); go_simp) <;> with_reducible rfl)
  try simp only [Act.put, List.setIfInBounds_toArray, List.set_cons_zero, List.set_cons_succ]
  refine takeH 4 (fun _ _ _ _ _ h => h) (by kernel_rfl) hHeld rfl (by kernel_rfl) (by rfl) (v := ?_) ?_ ?_
  rotate_left
  ((intro wz hz; (try dsimp only at hz); go_simp) <;> with_reducible rfl)
  try simp only [Act.put, List.setIfInBounds_toArray, List.set_cons_zero, List.set_cons_succ]
  refine takeH 5 (fun _ _ _ _ _ h => h) (by kernel_rfl) hHeld rfl (by kernel_rfl) (by rfl) (v := ?_) ?_ ?_
  rotate_left
  ((intro wz hz; (try dsimp only at hz); go_simp) <;> with_reducible rfl)
  try simp only [Act.put, List.setIfInBounds_toArray, List.set_cons_zero, List.set_cons_succ]
  refine takeH 6 (fun _ _ _ _ _ h => h) (by kernel_rfl) hHeld rfl (by kernel_rfl) (by rfl) (v := ?_) ?_ ?_
  rotate_left
  ((intro wz hz; (try dsimp only at hz); go_simp) <;> with_reducible rfl)
  try simp only [Act.put, List.setIfInBounds_toArray, List.set_cons_zero, List.set_cons_succ]
  refine takeH 7 (fun _ _ _ _ _ h => h) (by kernel_rfl) hHeld rfl (by kernel_rfl) (by rfl) (v := ?_) ?_ ?_
  rotate_left
  ((intro wz hz; (try dsimp only at hz); go_simp) <;> with_reducible rfl)
  try simp only [Act.put, List.setIfInBounds_toArray, List.set_cons_zero, List.set_cons_succ]
  refine takeH 8 (fun _ _ _ _ _ h => h) (by kernel_rfl) hHeld rfl (by kernel_rfl) (by rfl) (v := ?_) ?_ ?_
  rotate_left
  ((intro wz hz; (try dsimp only at hz); go_simp) <;> with_reducible rfl)
  try simp only [Act.put, List.setIfInBounds_toArray, List.set_cons_zero, List.set_cons_succ]
  refine takeH 9 (fun _ _ _ _ _ h => h) (by kernel_rfl) hHeld rfl (by kernel_rfl) (by rfl) (v := ?_) ?_ ?_
  rotate_left
  ((intro wz hz; (try dsimp only at hz); go_simp) <;> with_reducible rfl)
  try simp only [Act.put, List.setIfInBounds_toArray, List.set_cons_zero, List.set_cons_succ]
  refine takeH 10 (fun _ _ _ _ _ h => h) (by kernel_rfl) hHeld rfl (by kernel_rfl) (by rfl) (v := ?_) ?_ ?_
  rotate_left
  ((intro wz hz; (try dsimp only at hz); go_simp) <;> with_reducible rfl)
  try simp only [Act.put, List.setIfInBounds_toArray, List.set_cons_zero, List.set_cons_succ]
  refine takeH 11 (fun _ _ _ _ _ h => h) (by kernel_rfl) hHeld rfl (by kernel_rfl) (by rfl) (v := ?_) ?_ ?_
  rotate_left
  ((intro wz hz; (try dsimp only at hz); go_simp) <;> with_reducible rfl)
  try simp only [Act.put, List.setIfInBounds_toArray, List.set_cons_zero, List.set_cons_succ]
  refine stepH 12 (by kernel_rfl) rfl (by rfl) (fun K hK => ?_)
  go_simp
  refine (cI.out _).mono ?_
  rintro e wq' ⟨rfl, nq1, rfl⟩
  refine hK.out _ _ ?_ (fun hHeld => ?_)
  · exact ⟨HR.cell (HR.like hHeld.2.2.2 rfl rfl rfl rfl) (b := ba) (cs := #[.int .u64 t, .int .u64 px, .int .u64 py]) (t := 31) (by simp) 0 rfl, HR.cell (HR.like hHeld.2.2.2 rfl rfl rfl rfl) (b := ba) (cs := #[.int .u64 t, .int .u64 px, .int .u64 py]) (t := 31) (by simp) 1 rfl, HR.cell (HR.like hHeld.2.2.2 rfl rfl rfl rfl) (b := ba) (cs := #[.int .u64 t, .int .u64 px, .int .u64 py]) (t := 31) (by simp) 2 rfl, (HR.like hHeld.2.2.2 rfl rfl rfl rfl)⟩
  clear hK K
  try simp only [Act.put, List.setIfInBounds_toArray, List.set_cons_zero, List.set_cons_succ]
  refine takeH 13 (fun _ _ _ _ _ h => h) (by kernel_rfl) hHeld rfl (by kernel_rfl) (by rfl) (v := ?_) ?_ ?_
  rotate_left
  ((intro wz hz; (try dsimp only at hz); go_simp) <;> with_reducible rfl)
  try simp only [Act.put, List.setIfInBounds_toArray, List.set_cons_zero, List.set_cons_succ]
  refine takeH 14 (fun _ _ _ _ _ h => h) (by kernel_rfl) hHeld rfl (by kernel_rfl) (by rfl) (v := ?_) ?_ ?_
  rotate_left
  ((intro wz hz; (try dsimp only at hz); go_simp) <;> with_reducible rfl)
  try simp only [Act.put, List.setIfInBounds_toArray, List.set_cons_zero, List.set_cons_succ]
  refine takeH 15 (fun _ _ _ _ _ h => h) (by kernel_rfl) hHeld rfl (by kernel_rfl) (by rfl) (v := ?_) ?_ ?_
  rotate_left
  ((intro wz hz; (try dsimp only at hz); go_simp) <;> with_reducible rfl)
  try simp only [Act.put, List.setIfInBounds_toArray, List.set_cons_zero, List.set_cons_succ]
  refine takeH 16 (fun _ _ _ _ _ h => h) (by kernel_rfl) hHeld rfl (by kernel_rfl) (by rfl) (v := ?_) ?_ ?_
  rotate_left
  ((intro wz hz; (try dsimp only at hz); go_simp) <;> with_reducible rfl)
  try simp only [Act.put, List.setIfInBounds_toArray, List.set_cons_zero, List.set_cons_succ]
  refine takeH 17 (fun _ _ _ _ _ h => h) (by kernel_rfl) hHeld rfl (by kernel_rfl) (by rfl) (v := ?_) ?_ ?_
  rotate_left
  ((intro wz hz; (try dsimp only at hz); go_simp) <;> with_reducible rfl)
  try simp only [Act.put, List.setIfInBounds_toArray, List.set_cons_zero, List.set_cons_succ]
  refine takeH 18 (fun _ _ _ _ _ h => h) (by kernel_rfl) hHeld rfl (by kernel_rfl) (by rfl) (v := ?_) ?_ ?_
  rotate_left
  ((intro wz hz; (try dsimp only at hz); go_simp) <;> with_reducible rfl)
  try simp only [Act.put, List.setIfInBounds_toArray, List.set_cons_zero, List.set_cons_succ]
  refine stepH 19 (by kernel_rfl) rfl (by rfl) (fun K hK => ?_)
  go_simp
  refine (cO.out _).mono ?_
  rintro e wq' ⟨rfl, nq2, rfl⟩
  refine hK.out _ _ ?_ (fun hHeld => ?_)
  · exact ⟨HR.cell (HR.like hHeld.2.2.2 rfl rfl rfl rfl) (b := ba) (cs := #[.int .u64 t, .int .u64 px, .int .u64 py]) (t := 31) (by simp) 0 rfl, HR.cell (HR.like hHeld.2.2.2 rfl rfl rfl rfl) (b := ba) (cs := #[.int .u64 t, .int .u64 px, .int .u64 py]) (t := 31) (by simp) 1 rfl, HR.cell (HR.like hHeld.2.2.2 rfl rfl rfl rfl) (b := ba) (cs := #[.int .u64 t, .int .u64 px, .int .u64 py]) (t := 31) (by simp) 2 rfl, (HR.like hHeld.2.2.2 rfl rfl rfl rfl)⟩
  clear hK K
  try simp only [Act.put, List.setIfInBounds_toArray, List.set_cons_zero, List.set_cons_succ]
  refine takeH 20 (fun _ _ _ _ _ h => h) (by kernel_rfl) hHeld rfl (by kernel_rfl) (by rfl) (v := ?_) ?_ ?_
  rotate_left
  ((intro wz hz; (try dsimp only at hz); go_simp) <;> with_reducible rfl)
  try simp only [Act.put, List.setIfInBounds_toArray, List.set_cons_zero, List.set_cons_succ]
  refine takeH 21 (fun _ _ _ _ _ h => h) (by kernel_rfl) hHeld rfl (by kernel_rfl) (by rfl) (v := ?_) ?_ ?_
  rotate_left
  ((intro wz hz; (try dsimp only at hz); go_simp) <;> with_reducible rfl)
  try simp only [Act.put, List.setIfInBounds_toArray, List.set_cons_zero, List.set_cons_succ]
  refine takeH 22 (fun _ _ _ _ _ h => h) (by kernel_rfl) hHeld rfl (by kernel_rfl) (by rfl) (v := ?_) ?_ ?_
  rotate_left
  ((intro wz hz; (try dsimp only at hz); go_simp) <;> with_reducible rfl)
  try simp only [Act.put, List.setIfInBounds_toArray, List.set_cons_zero, List.set_cons_succ]
  refine takeH 23 (fun _ _ _ _ _ h => h) (by kernel_rfl) hHeld rfl (by kernel_rfl) (by rfl) (v := ?_) ?_ ?_
  rotate_left
  ((intro wz hz; (try dsimp only at hz); go_simp) <;> with_reducible rfl)
  try simp only [Act.put, List.setIfInBounds_toArray, List.set_cons_zero, List.set_cons_succ]
  refine takeH 24 (fun _ _ _ _ _ h => h) (by kernel_rfl) hHeld rfl (by kernel_rfl) (by rfl) (v := ?_) ?_ ?_
  rotate_left
  ((intro wz hz; (try dsimp only at hz); go_simp) <;> with_reducible rfl)
  try simp only [Act.put, List.setIfInBounds_toArray, List.set_cons_zero, List.set_cons_succ]
  refine takeH 26 (fun _ _ _ _ _ h => h) (by kernel_rfl) hHeld rfl (by kernel_rfl) (by rfl) (v := ?_) ?_ ?_
  rotate_left
  ((intro wz hz; (try dsimp only at hz); go_simp) <;> with_reducible rfl)
  try simp only [Act.put, List.setIfInBounds_toArray, List.set_cons_zero, List.set_cons_succ]
  generalize (w4.drewN (1 + nq1)).drewN nq2 = wg at hHeld ⊢
  refine stepH 25 (by kernel_rfl) rfl (by rfl) (fun K hK => ?_)
  go_simp
  refine (r7Gen' _).mono ?_
  rintro e wc3 ⟨rfl, hbc3⟩
  have hrc3 := HR.next hHeld.2.2.2 hbc3
  refine hK.out _ _ ?_ (fun hHeld => ?_)
  · exact ⟨HR.cell hrc3 (b := ba) (cs := #[.int .u64 t, .int .u64 px, .int .u64 py]) (t := 31) (by simp) 0 rfl, HR.cell hrc3 (b := ba) (cs := #[.int .u64 t, .int .u64 px, .int .u64 py]) (t := 31) (by simp) 1 rfl, HR.cell hrc3 (b := ba) (cs := #[.int .u64 t, .int .u64 px, .int .u64 py]) (t := 31) (by simp) 2 rfl, hrc3⟩
  clear hK K
  try simp only [Act.put, List.setIfInBounds_toArray, List.set_cons_zero, List.set_cons_succ]
  refine stepH 27 (by kernel_rfl) rfl (by rfl) (fun K hK => ?_)
  go_simp
  refine (cS.out _).mono ?_
  rintro e wq' ⟨rfl, rfl⟩
  refine hK.out _ _ ?_ (fun hHeld => ?_)
  · exact ⟨HR.cell (HR.like hHeld.2.2.2 rfl rfl rfl rfl) (b := ba) (cs := #[.int .u64 t, .int .u64 px, .int .u64 py]) (t := 31) (by simp) 0 rfl, HR.cell (HR.like hHeld.2.2.2 rfl rfl rfl rfl) (b := ba) (cs := #[.int .u64 t, .int .u64 px, .int .u64 py]) (t := 31) (by simp) 1 rfl, HR.cell (HR.like hHeld.2.2.2 rfl rfl rfl rfl) (b := ba) (cs := #[.int .u64 t, .int .u64 px, .int .u64 py]) (t := 31) (by simp) 2 rfl, (HR.like hHeld.2.2.2 rfl rfl rfl rfl)⟩
  clear hK K
  try simp only [Act.put, List.setIfInBounds_toArray, List.set_cons_zero, List.set_cons_succ]
  refine stepH 28 (by kernel_rfl) rfl (by rfl) (fun K hK => ?_)
  go_simp
  refine (cT.out _).mono ?_
  rintro e wc4 ⟨rfl, hbc4⟩
  have hrc4 := HR.next hHeld.2.2.2 hbc4
  refine hK.out _ _ ?_ (fun hHeld => ?_)
  · exact ⟨HR.cell hrc4 (b := ba) (cs := #[.int .u64 t, .int .u64 px, .int .u64 py]) (t := 31) (by simp) 0 rfl, HR.cell hrc4 (b := ba) (cs := #[.int .u64 t, .int .u64 px, .int .u64 py]) (t := 31) (by simp) 1 rfl, HR.cell hrc4 (b := ba) (cs := #[.int .u64 t, .int .u64 px, .int .u64 py]) (t := 31) (by simp) 2 rfl, hrc4⟩
  clear hK K
  try simp only [Act.put, List.setIfInBounds_toArray, List.set_cons_zero, List.set_cons_succ]
  refine takeH 29 (fun _ _ _ _ _ h => h) (by kernel_rfl) hHeld rfl (by kernel_rfl) (by rfl) (v := ?_) ?_ ?_
  rotate_left
  ((intro wz hz; (try dsimp only at hz); go_simp) <;> with_reducible rfl)
  try simp only [Act.put, List.setIfInBounds_toArray, List.set_cons_zero, List.set_cons_succ]
  refine takeH 30 (fun _ _ _ _ _ h => h) (by kernel_rfl) hHeld rfl (by kernel_rfl) (by rfl) (v := ?_) ?_ ?_
  rotate_left
  ((intro wz hz; (try dsimp only at hz); go_simp) <;> with_reducible rfl)
  try simp only [Act.put, List.setIfInBounds_toArray, List.set_cons_zero, List.set_cons_succ]
  refine takeH 31 (fun _ _ _ _ _ h => h) (by kernel_rfl) hHeld rfl (by kernel_rfl) (by rfl) (v := ?_) ?_ ?_
  rotate_left
  ((intro wz hz; (try dsimp only at hz); go_simp) <;> with_reducible rfl)
  try simp only [Act.put, List.setIfInBounds_toArray, List.set_cons_zero, List.set_cons_succ]
  refine wpAnyH_done (by kernel_rfl) (NoPanic.normal ?_) _
  go_wp2_with fail
  go_ret
  exact ⟨by simp, hHeld.2.2.2.2⟩
theorem walkKeys (w : World) (hG : RowsAt w) (k : Int) (k0 : 0 ≤ k) (k1 : k ≤ 18446744073709551615) :
    Calls Tryd.prog 3 #[.int .u64 k] w fun e w' => e = .returned (.bool true) ∧ Below w.heap.size w w' := by
  have G := Lib.hid hG
  by_cases h : 1 ≤ k ∧ k < 288230376287764481
  · exact walkKeysY w G k h
  · exact walkKeysN w G k k0 h

end Go.Proofs.YtallfmiikjmgaaaDoor
