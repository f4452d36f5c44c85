import Derived.Test.YtallfmiikjmgaaaDoorMH
import Derived.Test.YtallfmiikjmgaaaDoorMA
import Derived.Test.YtallfmiikjmgaaaDoorMI
set_option linter.unusedVariables false
set_option linter.unusedSimpArgs false
/- Walks: package note: a sealed note opened: two numbers. -/
namespace Go.Proofs.YtallfmiikjmgaaaDoor
open Go.RowKit

def OpI (T : List Nat) (A B i : Int) : Prop := 0 ≤ i ∧ i ≤ 16 ∧ ReadI (T.take 8) A (min i 8) ∧ ReadI (T.drop 8) B (max (i - 8) 0)
theorem b8_t8 {T : List Nat} (H : B8 16 T) : B8 8 (T.take 8) := ⟨by rw [List.length_take, H.len]; rfl, fun i => by rw [Obol.getD_take]; split; exact H.lt _; decide⟩
theorem b8_d8 {T : List Nat} (H : B8 16 T) : B8 8 (T.drop 8) := ⟨by rw [List.length_drop, H.len], fun i => by rw [Obol.getD_drop]; exact H.lt _⟩
theorem OpI.start {T : List Nat} : OpI T 0 0 0 := ⟨by omega, by omega, ⟨by omega, by omega, by omega, by decide, rfl⟩, ⟨by omega, by omega, by omega, by decide, rfl⟩⟩
theorem OpI.low {T : List Nat} {A B i v : Int} (H : B8 16 T) (h : OpI T A B i) (hi : i < 8) (hv : v = ((T.getD i.toNat 0 : Nat) : Int)) (v0 : 0 ≤ v) (v1 : v ≤ 255) : OpI T (256 * A + v) B (i + 1) := by
  obtain ⟨h0, h1, h2, h3⟩ := h
  refine ⟨by omega, by omega, ?_, ?_⟩
  · rw [show min (i + 1) 8 = i + 1 by omega]
    rw [show min i 8 = i by omega] at h2
    exact h2.step (b8_t8 H) hi (by rw [hv, Obol.getD_take, if_pos (by omega)]) v0 v1
  · rwa [show max (i + 1 - 8) 0 = max (i - 8) 0 by omega]
theorem OpI.high {T : List Nat} {A B i v : Int} (H : B8 16 T) (h : OpI T A B i) (hi : ¬ i < 8) (hi2 : i < 16) (hv : v = ((T.getD i.toNat 0 : Nat) : Int)) (v0 : 0 ≤ v) (v1 : v ≤ 255) : OpI T A (256 * B + v) (i + 1) := by
  obtain ⟨h0, h1, h2, h3⟩ := h
  refine ⟨by omega, by omega, ?_, ?_⟩
  · rwa [show min (i + 1) 8 = min i 8 by omega]
  · rw [show max (i + 1 - 8) 0 = (i - 8) + 1 by omega]
    rw [show max (i - 8) 0 = i - 8 by omega] at h3
    exact h3.step (b8_d8 H) (by omega) (by rw [hv, Obol.getD_drop]; congr 2; omega) v0 v1
theorem OpI.done {T : List Nat} {A B : Int} (H : B8 16 T) (h : OpI T A B 16) : A = ((Obol.num8 (T.take 8) : Nat) : Int) ∧ B = ((Obol.num8 (T.drop 8) : Nat) : Int) :=
  ⟨ReadI.done (b8_t8 H) h.2.2.1, ReadI.done (b8_d8 H) h.2.2.2⟩
set_option maxRecDepth 8000 in
set_option maxHeartbeats 4000000 in
theorem nOpen (k x y : Int) (k1 : 1 ≤ k) (k2 : k < 288230376287764481) (x0 : 0 ≤ x) (y0 : 0 ≤ y) (hEn : Obol.isN (x.toNat, y.toNat) = true) (ao : Option Addr) (cap : Nat) (S : List Nat) (HS : B8 32 S) (hg : Obol.bothL (secL (x.toNat, y.toNat) (Obol.smulN (x.toNat, y.toNat) (Obol.scN k.toNat))) z12 [] (S.take 16) = S.drop 16) (hP : ∀ W, Calls Tryd.prog 39 #[edV x y] W fun e' w' => e' = .returned (.bool true) ∧ Below W.heap.size W w') (w : World) (hG : RowsAt w) (hS : SlI w.heap.size w ao cap S)  :
    Calls Tryd.prog 24 #[.int .u64 k, .agg #[.int .u64 x, .int .u64 y, .slice ao 32 cap]] w fun e' w' => ((Obol.num8 ((Obol.strm (secL (x.toNat, y.toNat) (Obol.smulN (x.toNat, y.toNat) (Obol.scN k.toNat))) z12 (S.take 16)).take 8) < 4294967296 ∧ Obol.num8 ((Obol.strm (secL (x.toNat, y.toNat) (Obol.smulN (x.toNat, y.toNat) (Obol.scN k.toNat))) z12 (S.take 16)).drop 8) < 288230376287764481) ∧ e' = .returned (.tuple #[ntV ((Obol.num8 ((Obol.strm (secL (x.toNat, y.toNat) (Obol.smulN (x.toNat, y.toNat) (Obol.scN k.toNat))) z12 (S.take 16)).take 8) : Nat) : Int) ((Obol.twoN k.toNat 2 : Nat) : Int) ((Obol.num8 ((Obol.strm (secL (x.toNat, y.toNat) (Obol.smulN (x.toNat, y.toNat) (Obol.scN k.toNat))) z12 (S.take 16)).drop 8) : Nat) : Int), .nilIface]) ∨ ¬ (Obol.num8 ((Obol.strm (secL (x.toNat, y.toNat) (Obol.smulN (x.toNat, y.toNat) (Obol.scN k.toNat))) z12 (S.take 16)).take 8) < 4294967296 ∧ Obol.num8 ((Obol.strm (secL (x.toNat, y.toNat) (Obol.smulN (x.toNat, y.toNat) (Obol.scN k.toNat))) z12 (S.take 16)).drop 8) < 288230376287764481) ∧ e' = .returned (.tuple #[ntV 0 0 0, errN 6])) ∧ Below w.heap.size w w' := by
  have cT := fun w => cTwo k 2 (by omega) (by omega) w
  have ht1 : Obol.twoN k.toNat 2 < 288230376287764481 := Nat.lt_of_lt_of_eq (Obol.twoN_lt _ _) Obol.R_def
  obtain ⟨t, ht⟩ : ∃ t : Int, ((Obol.twoN k.toNat (2 : Int).toNat : Nat) : Int) = t := ⟨_, rfl⟩
  have ht2 : ((Obol.twoN k.toNat 2 : Nat) : Int) = t := ht
  rw [ht] at cT
  rw [ht2]
  have t0 : 0 ≤ t := by omega
  have t1 : t < 288230376287764481 := by omega
  clear ht ht2 ht1
  replace cT := Lib.hid cT
  have cK := Lib.hid (fun w => nKeyY k k1 k2 w)
  have cP := Lib.hid hP
  have G := Lib.hid hG
  have cS := Lib.hid (fun w => nScalar k (by omega) w)
  have cM := fun W => eMulK x y ((Obol.scN k.toNat : Nat) : Int) x0 y0 (by omega) (by have := scN_lt k.toNat; omega) W
  obtain ⟨mx, my, mx0, my0, mxR, myR, hmx, hmy, hMn⟩ := mul_pt (x.toNat, y.toNat) (Obol.scN k.toNat)
  simp only [Int.toNat_natCast] at cM
  rw [hmx, hmy] at cM
  have cX := fun W hG => nShared x y mx my x0 y0 mx0 my0 hEn hMn W hG
  have e2 : (mx.toNat, my.toNat) = Obol.smulN (x.toNat, y.toNat) (Obol.scN k.toNat) := Prod.ext (by show mx.toNat = _; omega) (by show my.toNat = _; omega)
  rw [e2] at cX
  have hK8 := Lib.hid (secL_b8 (x.toNat, y.toNat) (Obol.smulN (x.toNat, y.toNat) (Obol.scN k.toNat)))
  obtain ⟨K, hK⟩ : ∃ l, secL (x.toNat, y.toNat) (Obol.smulN (x.toNat, y.toNat) (Obol.scN k.toNat)) = l := ⟨_, rfl⟩
  rw [hK] at cX hK8 hg ⊢
  obtain ⟨s, hs⟩ : ∃ s : Int, ((Obol.scN k.toNat : Nat) : Int) = s := ⟨_, rfl⟩
  rw [hs] at cM cS
  have hz12 : Hid (B8 12 z12) := Lib.hid (cp0_b8 12)
  have mk12 : ∀ W, (Instr.makeSlice 42 (.int .i64 12) (.int .i64 12)).run Tryd.prog W = .ok (.slice (some ⟨W.heap.size, 0, none⟩) 12 12) (W.alloc (.cells (u8s z12) 5)) := fun W => make8 12 (by omega) W
  replace cM := Lib.hid cM
  replace cX := Lib.hid cX
  replace hK := Lib.hid hK
  clear hP hmx hmy hEn hMn e2 hG hs mx0 my0 mxR myR
  replace hS := Lib.hid hS
  replace HS := Lib.hid HS
  replace hg := Lib.hid hg
  go_enter Tryd.func24, Tryd.ntmps24
  go_upto_region 1 with fail
  have H1 := Lib.hid (((HR.refl w).new #[.int .u64 x, .int .u64 y, .slice ao 32 cap] 44).new #[.int .u64 0, .int .u64 0, .int .u64 0] 41)
  simp only [World.size_alloc] at H1
  generalize (w.alloc (.cells #[.int .u64 x, .int .u64 y, .slice ao 32 cap] 44)).alloc (.cells #[.int .u64 0, .int .u64 0, .int .u64 0] 41) = w1 at H1 ⊢
  obtain ⟨b1, hb1⟩ : ∃ z, w.heap.size + 1 = z := ⟨_, rfl⟩
  obtain ⟨b0, hb0⟩ : ∃ z, w.heap.size = z := ⟨_, rfl⟩
  have H2 : Hid (HR w w1 [(b1, #[.int .u64 0, .int .u64 0, .int .u64 0], 41), (b0, #[.int .u64 x, .int .u64 y, .slice ao 32 cap], 44)]) := Lib.hid (by rw [← hb1, ← hb0]; exact H1.out)
  rw [hb1, hb0]
  have ho : Hid (w.heap.size ≤ b0 ∧ b0 < b1) := Lib.hid (by omega)
  replace hb0 := Lib.hid hb0
  replace hb1 := Lib.hid hb1
  clear H1
  have c_b1_0 := H2.out.cell (b := b1) (cs := #[.int .u64 0, .int .u64 0, .int .u64 0]) (t := 41) (by simp) 0 rfl
  have c_b1_1 := H2.out.cell (b := b1) (cs := #[.int .u64 0, .int .u64 0, .int .u64 0]) (t := 41) (by simp) 1 rfl
  have c_b1_2 := H2.out.cell (b := b1) (cs := #[.int .u64 0, .int .u64 0, .int .u64 0]) (t := 41) (by simp) 2 rfl
  have c_b0_0 := H2.out.cell (b := b0) (cs := #[.int .u64 x, .int .u64 y, .slice ao 32 cap]) (t := 44) (by simp) 0 rfl
  have c_b0_1 := H2.out.cell (b := b0) (cs := #[.int .u64 x, .int .u64 y, .slice ao 32 cap]) (t := 44) (by simp) 1 rfl
  have c_b0_2 := H2.out.cell (b := b0) (cs := #[.int .u64 x, .int .u64 y, .slice ao 32 cap]) (t := 44) (by simp) 2 rfl
  have f_b1_0 := H2.out.free (b := b1) (cs := #[.int .u64 0, .int .u64 0, .int .u64 0]) (t := 41) (by simp) 0
  have f_b1_1 := H2.out.free (b := b1) (cs := #[.int .u64 0, .int .u64 0, .int .u64 0]) (t := 41) (by simp) 1
  have f_b1_2 := H2.out.free (b := b1) (cs := #[.int .u64 0, .int .u64 0, .int .u64 0]) (t := 41) (by simp) 2
  go_wp2_with fail
  refine (cK.out _).mono ?_
  rintro e' w3 ⟨rfl, rfl⟩
  go_wp2_with fail
  refine (cP.out _).mono ?_
  rintro e' w4 ⟨rfl, hb4⟩
  have H4 := Lib.hid (H2.out.next hb4)
  clear c_b1_0 c_b1_1 c_b1_2 c_b0_0 c_b0_1 c_b0_2 f_b1_0 f_b1_1 f_b1_2
  clear hb4 H2
  have c_b1_0 := H4.out.cell (b := b1) (cs := #[.int .u64 0, .int .u64 0, .int .u64 0]) (t := 41) (by simp) 0 rfl
  have c_b1_1 := H4.out.cell (b := b1) (cs := #[.int .u64 0, .int .u64 0, .int .u64 0]) (t := 41) (by simp) 1 rfl
  have c_b1_2 := H4.out.cell (b := b1) (cs := #[.int .u64 0, .int .u64 0, .int .u64 0]) (t := 41) (by simp) 2 rfl
  have c_b0_0 := H4.out.cell (b := b0) (cs := #[.int .u64 x, .int .u64 y, .slice ao 32 cap]) (t := 44) (by simp) 0 rfl
  have c_b0_1 := H4.out.cell (b := b0) (cs := #[.int .u64 x, .int .u64 y, .slice ao 32 cap]) (t := 44) (by simp) 1 rfl
  have c_b0_2 := H4.out.cell (b := b0) (cs := #[.int .u64 x, .int .u64 y, .slice ao 32 cap]) (t := 44) (by simp) 2 rfl
  go_upto_region 5 with fail
  refine wp_region_noPanic ?_
  refine wp_region_held_drew (S := fun wq => wq.cell? ⟨b0, 0, none⟩ = some (.int .u64 x) ∧ wq.cell? ⟨b0, 1, none⟩ = some (.int .u64 y) ∧ wq.cell? ⟨b0, 2, none⟩ = some (.slice ao 32 cap) ∧ HR w wq [(b1, #[.int .u64 0, .int .u64 0, .int .u64 0], 41), (b0, #[.int .u64 x, .int .u64 y, .slice ao 32 cap], 44)]) (by kernel_rfl) ?_ (fun hHeld => ?_)
  · have hq0 := HR.drew H4.out
    exact ⟨HR.cell hq0 (b := b0) (cs := #[.int .u64 x, .int .u64 y, .slice ao 32 cap]) (t := 44) (by simp) 0 rfl, HR.cell hq0 (b := b0) (cs := #[.int .u64 x, .int .u64 y, .slice ao 32 cap]) (t := 44) (by simp) 1 rfl, HR.cell hq0 (b := b0) (cs := #[.int .u64 x, .int .u64 y, .slice ao 32 cap]) (t := 44) (by simp) 2 rfl, hq0⟩
  refine takeH 0 (fun _ _ _ _ _ h => h) (by kernel_rfl) hHeld rfl (by kernel_rfl) (by rfl) (v := ?_) ?_ ?_
  rotate_left
  ((intro wz hz; (try dsimp only at hz); go_simp) <;> with_reducible rfl)
  try simp only [Act.put, List.setIfInBounds_toArray, List.set_cons_zero, List.set_cons_succ]
  refine takeH 1 (fun _ _ _ _ _ h => h) (by kernel_rfl) hHeld rfl (by kernel_rfl) (by rfl) (v := ?_) ?_ ?_
  rotate_left
  ((intro wz hz; (try dsimp only at hz); go_simp) <;> with_reducible rfl)
  try simp only [Act.put, List.setIfInBounds_toArray, List.set_cons_zero, List.set_cons_succ]
  refine takeH 2 (fun _ _ _ _ _ h => h) (by kernel_rfl) hHeld rfl (by kernel_rfl) (by rfl) (v := ?_) ?_ ?_
  rotate_left
  ((intro wz hz; (try dsimp only at hz); go_simp) <;> with_reducible rfl)
  try simp only [Act.put, List.setIfInBounds_toArray, List.set_cons_zero, List.set_cons_succ]
  refine takeH 3 (fun _ _ _ _ _ h => h) (by kernel_rfl) hHeld rfl (by kernel_rfl) (by rfl) (v := ?_) ?_ ?_
  rotate_left
  ((intro wz hz; (try dsimp only at hz); go_simp) <;> with_reducible rfl)
  try simp only [Act.put, List.setIfInBounds_toArray, List.set_cons_zero, List.set_cons_succ]
  refine takeH 4 (fun _ _ _ _ _ h => h) (by kernel_rfl) hHeld rfl (by kernel_rfl) (by rfl) (v := ?_) ?_ ?_
  rotate_left
  ((intro wz hz; (try dsimp only at hz); go_simp) <;> with_reducible rfl)
  try simp only [Act.put, List.setIfInBounds_toArray, List.set_cons_zero, List.set_cons_succ]
  refine stepH 5 (by kernel_rfl) rfl (by rfl) (fun K hK => ?_)
  go_simp
  refine (cS.out _).mono ?_
  rintro e wq' ⟨rfl, rfl⟩
  refine hK.out _ _ ?_ (fun hHeld => ?_)
  · exact ⟨HR.cell (HR.like hHeld.2.2.2 rfl rfl rfl rfl) (b := b0) (cs := #[.int .u64 x, .int .u64 y, .slice ao 32 cap]) (t := 44) (by simp) 0 rfl, HR.cell (HR.like hHeld.2.2.2 rfl rfl rfl rfl) (b := b0) (cs := #[.int .u64 x, .int .u64 y, .slice ao 32 cap]) (t := 44) (by simp) 1 rfl, HR.cell (HR.like hHeld.2.2.2 rfl rfl rfl rfl) (b := b0) (cs := #[.int .u64 x, .int .u64 y, .slice ao 32 cap]) (t := 44) (by simp) 2 rfl, (HR.like hHeld.2.2.2 rfl rfl rfl rfl)⟩
  clear hK K
  try simp only [Act.put, List.setIfInBounds_toArray, List.set_cons_zero, List.set_cons_succ]
  refine stepH 6 (by kernel_rfl) rfl (by rfl) (fun K hK => ?_)
  go_simp
  refine (cM.out _).mono ?_
  rintro e wc1 ⟨rfl, hbc1⟩
  have hrc1 := HR.next hHeld.2.2.2 hbc1
  refine hK.out _ _ ?_ (fun hHeld => ?_)
  · exact ⟨HR.cell hrc1 (b := b0) (cs := #[.int .u64 x, .int .u64 y, .slice ao 32 cap]) (t := 44) (by simp) 0 rfl, HR.cell hrc1 (b := b0) (cs := #[.int .u64 x, .int .u64 y, .slice ao 32 cap]) (t := 44) (by simp) 1 rfl, HR.cell hrc1 (b := b0) (cs := #[.int .u64 x, .int .u64 y, .slice ao 32 cap]) (t := 44) (by simp) 2 rfl, hrc1⟩
  clear hK K
  try simp only [Act.put, List.setIfInBounds_toArray, List.set_cons_zero, List.set_cons_succ]
  refine stepH 7 (by kernel_rfl) rfl (by rfl) (fun K hK => ?_)
  go_simp
  refine (cX.out _ (G.out.below hHeld.2.2.2.2)).mono ?_
  rintro e wc2 ⟨gk, ck, rfl, hOk, hbc2⟩
  have hrc2 := HR.next hHeld.2.2.2 hbc2
  refine hK.out _ _ ?_ (fun hHeld => ?_)
  · exact ⟨HR.cell hrc2 (b := b0) (cs := #[.int .u64 x, .int .u64 y, .slice ao 32 cap]) (t := 44) (by simp) 0 rfl, HR.cell hrc2 (b := b0) (cs := #[.int .u64 x, .int .u64 y, .slice ao 32 cap]) (t := 44) (by simp) 1 rfl, HR.cell hrc2 (b := b0) (cs := #[.int .u64 x, .int .u64 y, .slice ao 32 cap]) (t := 44) (by simp) 2 rfl, hrc2⟩
  clear hK K
  try simp only [Act.put, List.setIfInBounds_toArray, List.set_cons_zero, List.set_cons_succ]
  refine takeH 8 (fun _ _ _ _ _ h => h) (by kernel_rfl) hHeld rfl (by kernel_rfl) (by rfl) (v := ?_) ?_ ?_
  rotate_left
  ((intro wz hz; (try dsimp only at hz); go_simp) <;> with_reducible rfl)
  try simp only [Act.put, List.setIfInBounds_toArray, List.set_cons_zero, List.set_cons_succ]
  refine takeH 9 (fun _ _ _ _ _ h => h) (by kernel_rfl) hHeld rfl (by kernel_rfl) (by rfl) (v := ?_) ?_ ?_
  rotate_left
  ((intro wz hz; (try dsimp only at hz); go_simp) <;> with_reducible rfl)
  try simp only [Act.put, List.setIfInBounds_toArray, List.set_cons_zero, List.set_cons_succ]
  refine takeH 10 (fun _ _ _ _ _ h => h) (by kernel_rfl) hHeld rfl (by kernel_rfl) (by rfl) (v := ?_) ?_ ?_
  rotate_left
  ((intro wz hz; (try dsimp only at hz); go_simp) <;> with_reducible rfl)
  try simp only [Act.put, List.setIfInBounds_toArray, List.set_cons_zero, List.set_cons_succ]
  refine takeH 11 (fun _ _ _ _ _ h => h) (by kernel_rfl) hHeld rfl (by kernel_rfl) (by rfl) (v := ?_) ?_ ?_
  rotate_left
  ((intro wz hz; (try dsimp only at hz); go_simp) <;> with_reducible rfl)
  try simp only [Act.put, List.setIfInBounds_toArray, List.set_cons_zero, List.set_cons_succ]
  refine takeH 12 (fun _ _ _ _ _ h => h) (by kernel_rfl) hHeld rfl (by kernel_rfl) (by rfl) (v := ?_) ?_ ?_
  rotate_left
  ((intro wz hz; (try dsimp only at hz); go_simp) <;> with_reducible rfl)
  try simp only [Act.put, List.setIfInBounds_toArray, List.set_cons_zero, List.set_cons_succ]
  refine wpAnyH_done (by kernel_rfl) (NoPanic.normal ?_) _
  have H7 := Lib.hid hHeld.2.2.2
  have OK := Lib.hid hOk
  clear hOk hHeld
  go_upto_region 8 with fail
  clear c_b1_0 c_b1_1 c_b1_2 c_b0_0 c_b0_1 c_b0_2
  refine wp_region_noPanic ?_
  refine wp_region_held_drew (S := fun wq => wq.cell? ⟨b0, 0, none⟩ = some (.int .u64 x) ∧ wq.cell? ⟨b0, 1, none⟩ = some (.int .u64 y) ∧ wq.cell? ⟨b0, 2, none⟩ = some (.slice ao 32 cap) ∧ HR w wq [(b1, #[.int .u64 0, .int .u64 0, .int .u64 0], 41), (b0, #[.int .u64 x, .int .u64 y, .slice ao 32 cap], 44)]) (by kernel_rfl) ?_ (fun hHeld => ?_)
  · have hq0 := HR.drew H7.out
    exact ⟨HR.cell hq0 (b := b0) (cs := #[.int .u64 x, .int .u64 y, .slice ao 32 cap]) (t := 44) (by simp) 0 rfl, HR.cell hq0 (b := b0) (cs := #[.int .u64 x, .int .u64 y, .slice ao 32 cap]) (t := 44) (by simp) 1 rfl, HR.cell hq0 (b := b0) (cs := #[.int .u64 x, .int .u64 y, .slice ao 32 cap]) (t := 44) (by simp) 2 rfl, hq0⟩
  refine takeH 0 (fun _ _ _ _ _ h => h) (by kernel_rfl) hHeld rfl (by kernel_rfl) (by rfl) (v := ?_) ?_ ?_
  rotate_left
  ((intro wz hz; (try dsimp only at hz); go_simp) <;> with_reducible rfl)
  try simp only [Act.put, List.setIfInBounds_toArray, List.set_cons_zero, List.set_cons_succ]
  refine takeH 2 (fun _ _ _ _ _ h => h) (by kernel_rfl) hHeld rfl (by kernel_rfl) (by rfl) (v := ?_) ?_ ?_
  rotate_left
  ((intro wz hz; (try dsimp only at hz); go_simp) <;> with_reducible rfl)
  try simp only [Act.put, List.setIfInBounds_toArray, List.set_cons_zero, List.set_cons_succ]
  refine takeH 3 (fun _ _ _ _ _ h => h) (by kernel_rfl) hHeld rfl (by kernel_rfl) (by rfl) (v := ?_) ?_ ?_
  rotate_left
  ((intro wz hz; (try dsimp only at hz); go_simp) <;> with_reducible rfl)
  try simp only [Act.put, List.setIfInBounds_toArray, List.set_cons_zero, List.set_cons_succ]
  refine stepH 1 (by kernel_rfl) rfl (by rfl) (fun K hK => ?_)
  go_simp
  refine hK.out _ _ ?_ (fun hHeld => ?_)
  · exact ⟨HR.cell (HR.drew (HR.alloc H7.out _)) (b := b0) (cs := #[.int .u64 x, .int .u64 y, .slice ao 32 cap]) (t := 44) (by simp) 0 rfl, HR.cell (HR.drew (HR.alloc H7.out _)) (b := b0) (cs := #[.int .u64 x, .int .u64 y, .slice ao 32 cap]) (t := 44) (by simp) 1 rfl, HR.cell (HR.drew (HR.alloc H7.out _)) (b := b0) (cs := #[.int .u64 x, .int .u64 y, .slice ao 32 cap]) (t := 44) (by simp) 2 rfl, (HR.drew (HR.alloc H7.out _))⟩
  clear hK K
  try simp only [Act.put, List.setIfInBounds_toArray, List.set_cons_zero, List.set_cons_succ]
  have hba : Below wc2.heap.size wc2 (wc2.alloc (.cells (u8s z12) 5)).drew := bDrewN (bAlloc (Below.refl _ _) _) 1
  have OK10 := OK.out.below hba
  obtain ⟨hk1, hk2, hk3⟩ : gk < (wc2.alloc (.cells (u8s z12) 5)).drew.heap.size ∧ BL (wc2.alloc (.cells (u8s z12) 5)).drew gk 0 K ∧ 32 ≤ ck := ⟨own_lt OK10, own_blz OK10 hK8.out.len, by have := (own_cap OK10).1; rw [hK8.out.len] at this; exact this⟩
  have hbz := (show Row (wc2.alloc (.cells (u8s z12) 5)).drew wc2.heap.size (u8s z12) 5 from Row.drew (Row.new _ _ _))
  have hrb := HR.drew (HR.alloc H7.out (.cells (u8s z12) 5))
  have cO := Lib.hid (qOpenY gk 0 ck wc2.heap.size 0 12 K z12 hK8.out hz12.out hk3 (Nat.le_refl _) (.slice none 0 0) [] ao 16 cap S HS.out (by omega) hg.out (wc2.alloc (.cells (u8s z12) 5)).drew hk1 hbz.lt hk2 hbz.bl (seg_nil _ _) (hS.out.next hrb.2))
  clear hba OK10 hk1 hk2 hk3 hbz hrb
  refine stepH 4 (by kernel_rfl) rfl (by rfl) (fun K hK => ?_)
  go_simp
  refine (cO.out).mono ?_
  rintro e wc8 ⟨⟨a2, c2, rfl, hO⟩, hbc8⟩
  have hrc8 := HR.next hHeld.2.2.2 hbc8
  refine hK.out _ _ ?_ (fun hHeld => ?_)
  · exact ⟨HR.cell hrc8 (b := b0) (cs := #[.int .u64 x, .int .u64 y, .slice ao 32 cap]) (t := 44) (by simp) 0 rfl, HR.cell hrc8 (b := b0) (cs := #[.int .u64 x, .int .u64 y, .slice ao 32 cap]) (t := 44) (by simp) 1 rfl, HR.cell hrc8 (b := b0) (cs := #[.int .u64 x, .int .u64 y, .slice ao 32 cap]) (t := 44) (by simp) 2 rfl, hrc8⟩
  clear hK K
  try simp only [Act.put, List.setIfInBounds_toArray, List.set_cons_zero, List.set_cons_succ]
  refine takeH 5 (fun _ _ _ _ _ h => h) (by kernel_rfl) hHeld rfl (by kernel_rfl) (by rfl) (v := ?_) ?_ ?_
  rotate_left
  ((intro wz hz; (try dsimp only at hz); go_simp) <;> with_reducible rfl)
  try simp only [Act.put, List.setIfInBounds_toArray, List.set_cons_zero, List.set_cons_succ]
  refine takeH 6 (fun _ _ _ _ _ h => h) (by kernel_rfl) hHeld rfl (by kernel_rfl) (by rfl) (v := ?_) ?_ ?_
  rotate_left
  ((intro wz hz; (try dsimp only at hz); go_simp) <;> with_reducible rfl)
  try simp only [Act.put, List.setIfInBounds_toArray, List.set_cons_zero, List.set_cons_succ]
  refine takeH 7 (fun _ _ _ _ _ h => h) (by kernel_rfl) hHeld rfl (by kernel_rfl) (by rfl) (v := ?_) ?_ ?_
  rotate_left
  ((intro wz hz; (try dsimp only at hz); go_simp) <;> with_reducible rfl)
  try simp only [Act.put, List.setIfInBounds_toArray, List.set_cons_zero, List.set_cons_succ]
  refine takeH 8 (fun _ _ _ _ _ h => h) (by kernel_rfl) hHeld rfl (by kernel_rfl) (by rfl) (v := ?_) ?_ ?_
  rotate_left
  ((intro wz hz; (try dsimp only at hz); go_simp) <;> with_reducible rfl)
  try simp only [Act.put, List.setIfInBounds_toArray, List.set_cons_zero, List.set_cons_succ]
  refine takeH 9 (fun _ _ _ _ _ h => h) (by kernel_rfl) hHeld rfl (by kernel_rfl) (by rfl) (v := ?_) ?_ ?_
  rotate_left
  ((intro wz hz; (try dsimp only at hz); go_simp) <;> with_reducible rfl)
  try simp only [Act.put, List.setIfInBounds_toArray, List.set_cons_zero, List.set_cons_succ]
  refine wpAnyH_done (by kernel_rfl) (NoPanic.normal ?_) _
  have H9 := Lib.hid hHeld.2.2.2
  clear hHeld
  have T8 := Lib.hid (show B8 16 (Obol.strm K z12 (S.take 16)) from ⟨by rw [Obol.strm_len, List.length_take, HS.out.len]; rfl, Obol.strm_lt K z12 (fun i => by rw [Obol.getD_take]; split; exact HS.out.lt i; decide)⟩)
  obtain ⟨T, hT⟩ : ∃ l, Obol.strm K z12 (S.take 16) = l := ⟨_, rfl⟩
  rw [hT] at hO T8
  obtain ⟨gt, ot, rfl, hgt, hBT⟩ := (OwnB.sl hO).2.bl (by rw [T8.out.len]; decide)
  have BT := Lib.hid hBT
  clear hO hBT
  have c_b1_0 := H9.out.cell (b := b1) (cs := #[.int .u64 0, .int .u64 0, .int .u64 0]) (t := 41) (by simp) 0 rfl
  have c_b1_1 := H9.out.cell (b := b1) (cs := #[.int .u64 0, .int .u64 0, .int .u64 0]) (t := 41) (by simp) 1 rfl
  have c_b1_2 := H9.out.cell (b := b1) (cs := #[.int .u64 0, .int .u64 0, .int .u64 0]) (t := 41) (by simp) 2 rfl
  go_upto_region 13 with fail
  clear c_b1_0 c_b1_1 c_b1_2
  have S0 := bAlloc (Below.refl _ wc8) (.cells #[.int .u64 0, .int .u64 0] 76)
  have R0 := (show Row (wc8.alloc (.cells #[.int .u64 0, .int .u64 0] 76)) wc8.heap.size #[.int .u64 0, .int .u64 0] 76 from Row.new _ _ _)
  generalize wc8.alloc (.cells #[.int .u64 0, .int .u64 0] 76) = w10 at S0 R0 ⊢
  obtain ⟨bt, hbt⟩ : ∃ z, wc8.heap.size = z := ⟨_, rfl⟩
  rw [hbt] at S0 R0 hgt ⊢
  replace S0 := Lib.hid S0
  replace R0 := Lib.hid R0
  replace hbt := Lib.hid hbt
  replace hT := Lib.hid hT
  have ho2 := Lib.hid (H9.out.lt (b := b1) (cs := #[.int .u64 0, .int .u64 0, .int .u64 0]) (t := 41) (by simp))
  go_loopw [58] (fun q wr => ∃ A B i : Int, q = .int .i64 i ∧ Hid (OpI T A B i) ∧ Hid (Row wr bt #[.int .u64 A, .int .u64 B] 76) ∧ Hid (Below bt wc8 wr)) (fun q _ => (16 - intOf q).toNat)
  case atStart => exact ⟨0, 0, 0, rfl, Lib.hid OpI.start, R0, S0⟩
  case round =>
    clear S0 R0
    rename World => wr
    obtain ⟨A, B, i, rfl, HI, R, S⟩ := hrel
    have i0 := HI.out.1
    have i1 := HI.out.2.1
    by_cases hi : i < 16
    · have C1 : BL wr gt ot T := BT.out.below S.out hgt
      obtain ⟨v, hv, he, v0, v1⟩ := C1.at T8.out i0 hi
      by_cases hi8 : i < 8
      · obtain ⟨n0, n1⟩ := HI.out.2.2.1.bound (by omega)
        have HN := Lib.hid (HI.out.low T8.out hi8 he v0 v1)
        have hor := or_byte n0 n1 v0 v1
        have hd : i / 8 = 0 := by omega
        have hd2 : i.tdiv 8 = 0 := by rw [Int.tdiv_eq_ediv_of_nonneg i0]; exact hd
        have c0 := R.out.cell 0 rfl
        have f0 := R.out.free 0
        clear he C1
        go_wp2_with fail
        go_roundw
        case rel => exact ⟨_, _, _, rfl, HN, Lib.hid (R.out.set 0 _), Lib.hid (bSet S.out (Nat.le_refl _))⟩
        case measure => simp [intOf]; omega
      · obtain ⟨n0, n1⟩ := HI.out.2.2.2.bound (by omega)
        have HN := Lib.hid (HI.out.high T8.out hi8 hi he v0 v1)
        have hor := or_byte n0 n1 v0 v1
        have hd : i / 8 = 1 := by omega
        have hd2 : i.tdiv 8 = 1 := by rw [Int.tdiv_eq_ediv_of_nonneg i0]; exact hd
        have c0 := R.out.cell 1 rfl
        have f0 := R.out.free 1
        clear he C1
        go_wp2_with fail
        go_roundw
        case rel => exact ⟨_, _, _, rfl, HN, Lib.hid (R.out.set 1 _), Lib.hid (bSet S.out (Nat.le_refl _))⟩
        case measure => simp [intOf]; omega
    · obtain rfl : i = 16 := by omega
      obtain ⟨hA, hB⟩ := HI.out.done T8.out
      have A0 : 0 ≤ A := by omega
      have B0 : 0 ≤ B := by omega
      have A1 : A ≤ 18446744073709551615 := by have := Obol.num8_lt (b8_t8 T8.out).all (b8_t8 T8.out).len; omega
      have B1 : B ≤ 18446744073709551615 := by have := Obol.num8_lt (b8_d8 T8.out).all (b8_d8 T8.out).len; omega
      have AB := Lib.hid (And.intro hA hB)
      clear HI hA hB i0 i1 hi
      have H10 : Hid (HR w wr [(bt, #[.int .u64 A, .int .u64 B], 76), (b1, #[.int .u64 0, .int .u64 0, .int .u64 0], 41)]) := Lib.hid ((HR.sub (H9.out.next (by rw [hbt.out]; exact S.out)) (by simp)).add R.out)
      clear S R H9
      go_upto_region 17 with fail
      have hlt17 : bt < wr.heap.size ∧ b1 < wr.heap.size ∧ w.heap.size ≤ wr.heap.size := ⟨H10.out.lt (b := bt) (cs := #[.int .u64 A, .int .u64 B]) (t := 76) (by simp), H10.out.lt (b := b1) (cs := #[.int .u64 0, .int .u64 0, .int .u64 0]) (t := 41) (by simp), H10.out.2.size⟩
      refine wp_region_noPanic ?_
      refine wp_region_held_drew (S := fun wq => wq.cell? ⟨bt, 0, none⟩ = some (.int .u64 A) ∧ wq.cell? ⟨bt, 1, none⟩ = some (.int .u64 B) ∧ HR w wq [(bt, #[.int .u64 A, .int .u64 B], 76), (b1, #[.int .u64 0, .int .u64 0, .int .u64 0], 41)]) (by kernel_rfl) ?_ (fun hHeld => ?_)
      · have hq0 := HR.drew H10.out
        exact ⟨HR.cell hq0 (b := bt) (cs := #[.int .u64 A, .int .u64 B]) (t := 76) (by simp) 0 rfl, HR.cell hq0 (b := bt) (cs := #[.int .u64 A, .int .u64 B]) (t := 76) (by simp) 1 rfl, hq0⟩
      refine takeH 0 (fun _ _ _ _ _ h => h) (by kernel_rfl) hHeld rfl (by kernel_rfl) (by rfl) (v := ?_) ?_ ?_
      rotate_left
      ((intro wz hz; (try dsimp only at hz); go_simp) <;> with_reducible rfl)
      try simp only [Act.put, List.setIfInBounds_toArray, List.set_cons_zero, List.set_cons_succ]
      refine takeH 1 (fun _ _ _ _ _ h => h) (by kernel_rfl) hHeld rfl (by kernel_rfl) (by rfl) (v := ?_) ?_ ?_
      rotate_left
      ((intro wz hz; (try dsimp only at hz); go_simp) <;> with_reducible rfl)
      try simp only [Act.put, List.setIfInBounds_toArray, List.set_cons_zero, List.set_cons_succ]
      refine takeH 2 (fun _ _ _ _ _ h => h) (by kernel_rfl) hHeld rfl (by kernel_rfl) (by rfl) (v := ?_) ?_ ?_
      rotate_left
      ((intro wz hz; (try dsimp only at hz); go_simp) <;> with_reducible rfl)
      try simp only [Act.put, List.setIfInBounds_toArray, List.set_cons_zero, List.set_cons_succ]
      refine takeH 4 (fun _ _ _ _ _ h => h) (by kernel_rfl) hHeld rfl (by kernel_rfl) (by rfl) (v := ?_) ?_ ?_
      rotate_left
      ((intro wz hz; (try dsimp only at hz); go_simp) <;> with_reducible rfl)
      try simp only [Act.put, List.setIfInBounds_toArray, List.set_cons_zero, List.set_cons_succ]
      refine takeH 5 (fun _ _ _ _ _ h => h) (by kernel_rfl) hHeld rfl (by kernel_rfl) (by rfl) (v := ?_) ?_ ?_
      rotate_left
      ((intro wz hz; (try dsimp only at hz); go_simp) <;> with_reducible rfl)
      try simp only [Act.put, List.setIfInBounds_toArray, List.set_cons_zero, List.set_cons_succ]
      refine wpAnyH_ready (rs := [3, 7]) (by kernel_rfl) (by simp) ?_
      refine AllReadyH.cons (i := 3) (by rw [List.getElem?_toArray]; exact rfl) (fun K hK => ?_) (AllReadyH.cons (i := 7) (by rw [List.getElem?_toArray]; exact rfl) (fun K hK => ?_) AllReadyH.nil)
      · go_simp
        refine (cT.out _).mono ?_
        rintro e wq' ⟨rfl, nq1, rfl⟩
        refine hK.out _ _ ?_ (fun hHeld => ?_)
        · exact ⟨HR.cell (HR.like hHeld.2.2 rfl rfl rfl rfl) (b := bt) (cs := #[.int .u64 A, .int .u64 B]) (t := 76) (by simp) 0 rfl, HR.cell (HR.like hHeld.2.2 rfl rfl rfl rfl) (b := bt) (cs := #[.int .u64 A, .int .u64 B]) (t := 76) (by simp) 1 rfl, (HR.like hHeld.2.2 rfl rfl rfl rfl)⟩
        clear hK K
        try simp only [Act.put, List.setIfInBounds_toArray, List.set_cons_zero, List.set_cons_succ]
        refine takeH 6 (fun _ _ _ _ _ h => h) (by kernel_rfl) hHeld rfl (by kernel_rfl) (by rfl) (v := ?_) ?_ ?_
        rotate_left
        ((intro wz hz; (try dsimp only at hz); go_simp) <;> with_reducible rfl)
        try simp only [Act.put, List.setIfInBounds_toArray, List.set_cons_zero, List.set_cons_succ]
        refine stepH 7 (by kernel_rfl) rfl (by rfl) (fun K hK => ?_)
        go_simp
        refine hK.out _ _ ?_ (fun hHeld => ?_)
        · exact ⟨HR.cell (HR.alloc (show HR w (wr.drewN (1 + nq1)) [(bt, #[.int .u64 A, .int .u64 B], 76), (b1, #[.int .u64 0, .int .u64 0, .int .u64 0], 41)] from HR.like hHeld.2.2 rfl rfl rfl rfl) _) (b := bt) (cs := #[.int .u64 A, .int .u64 B]) (t := 76) (by simp) 0 rfl, HR.cell (HR.alloc (show HR w (wr.drewN (1 + nq1)) [(bt, #[.int .u64 A, .int .u64 B], 76), (b1, #[.int .u64 0, .int .u64 0, .int .u64 0], 41)] from HR.like hHeld.2.2 rfl rfl rfl rfl) _) (b := bt) (cs := #[.int .u64 A, .int .u64 B]) (t := 76) (by simp) 1 rfl, (HR.alloc (show HR w (wr.drewN (1 + nq1)) [(bt, #[.int .u64 A, .int .u64 B], 76), (b1, #[.int .u64 0, .int .u64 0, .int .u64 0], 41)] from HR.like hHeld.2.2 rfl rfl rfl rfl) _)⟩
        clear hK K
        try simp only [Act.put, List.setIfInBounds_toArray, List.set_cons_zero, List.set_cons_succ]
        have hrow : Row ((wr.drewN (1 + nq1)).alloc (.cells #[.int .u64 0, .int .u64 0, .int .u64 0] 41)) wr.heap.size #[.int .u64 0, .int .u64 0, .int .u64 0] 41 := Row.new _ _ _
        have rc0 := hrow.cell 0 rfl
        have rc1 := hrow.cell 1 rfl
        have rc2 := hrow.cell 2 rfl
        have rf0 := hrow.free 0
        have rf1 := hrow.free 1
        have rf2 := hrow.free 2
        refine stepH 8 (by kernel_rfl) rfl (by rfl) (fun K hK => ?_)
        go_simp
        refine hK.out _ _ ?_ (fun hHeld => ?_)
        · exact ⟨HR.cell (HR.other (HR.other (HR.other (show HR w ((wr.drewN (1 + nq1)).alloc (.cells #[.int .u64 0, .int .u64 0, .int .u64 0] 41)) [(bt, #[.int .u64 A, .int .u64 B], 76), (b1, #[.int .u64 0, .int .u64 0, .int .u64 0], 41)] from HR.like hHeld.2.2 rfl rfl rfl rfl) (by have := hlt17; simp; omega) (by omega)) (by have := hlt17; simp; omega) (by omega)) (by have := hlt17; simp; omega) (by omega)) (b := bt) (cs := #[.int .u64 A, .int .u64 B]) (t := 76) (by simp) 0 rfl, HR.cell (HR.other (HR.other (HR.other (show HR w ((wr.drewN (1 + nq1)).alloc (.cells #[.int .u64 0, .int .u64 0, .int .u64 0] 41)) [(bt, #[.int .u64 A, .int .u64 B], 76), (b1, #[.int .u64 0, .int .u64 0, .int .u64 0], 41)] from HR.like hHeld.2.2 rfl rfl rfl rfl) (by have := hlt17; simp; omega) (by omega)) (by have := hlt17; simp; omega) (by omega)) (by have := hlt17; simp; omega) (by omega)) (b := bt) (cs := #[.int .u64 A, .int .u64 B]) (t := 76) (by simp) 1 rfl, (HR.other (HR.other (HR.other (show HR w ((wr.drewN (1 + nq1)).alloc (.cells #[.int .u64 0, .int .u64 0, .int .u64 0] 41)) [(bt, #[.int .u64 A, .int .u64 B], 76), (b1, #[.int .u64 0, .int .u64 0, .int .u64 0], 41)] from HR.like hHeld.2.2 rfl rfl rfl rfl) (by have := hlt17; simp; omega) (by omega)) (by have := hlt17; simp; omega) (by omega)) (by have := hlt17; simp; omega) (by omega))⟩
        clear hK K
        try simp only [Act.put, List.setIfInBounds_toArray, List.set_cons_zero, List.set_cons_succ]
        refine wpAnyH_done (by kernel_rfl) (NoPanic.normal ?_) _
        have H11 := Lib.hid (HR.add (HR.sub hHeld.2.2 (qs := [(b1, #[.int .u64 0, .int .u64 0, .int .u64 0], 41)]) (by simp)) (show Row (((((wr.drewN (1 + nq1)).alloc (.cells #[.int .u64 0, .int .u64 0, .int .u64 0] 41)).setCell ⟨wr.heap.size, 0, none⟩ (.int .u64 A)).setCell ⟨wr.heap.size, 1, none⟩ (.int .u64 t)).setCell ⟨wr.heap.size, 2, none⟩ (.int .u64 B)) wr.heap.size #[.int .u64 A, .int .u64 t, .int .u64 B] 41 from (show Row ((wr.drewN (1 + nq1)).alloc (.cells #[.int .u64 0, .int .u64 0, .int .u64 0] 41)) wr.heap.size #[.int .u64 0, .int .u64 0, .int .u64 0] 41 from Row.new _ _ _).set3))
        clear hHeld hrow rc0 rc1 rc2 rf0 rf1 rf2
        generalize ((((wr.drewN (1 + nq1)).alloc (.cells #[.int .u64 0, .int .u64 0, .int .u64 0] 41)).setCell ⟨wr.heap.size, 0, none⟩ (.int .u64 A)).setCell ⟨wr.heap.size, 1, none⟩ (.int .u64 t)).setCell ⟨wr.heap.size, 2, none⟩ (.int .u64 B) = w12 at H11 ⊢
        obtain ⟨bn, hbn⟩ : ∃ z, wr.heap.size = z := ⟨_, rfl⟩
        rw [hbn] at H11 hlt17 ⊢
        replace hbn := Lib.hid hbn
        replace hlt17 := Lib.hid hlt17
        clear H10
        by_cases hm : mayI A t B
        · have cC := Lib.hid (fun w => nCheckY A t B hm w)
          obtain ⟨m1, m2, m3⟩ := hm
          have c_bn_0 := H11.out.cell (b := bn) (cs := #[.int .u64 A, .int .u64 t, .int .u64 B]) (t := 41) (by simp) 0 rfl
          have c_bn_1 := H11.out.cell (b := bn) (cs := #[.int .u64 A, .int .u64 t, .int .u64 B]) (t := 41) (by simp) 1 rfl
          have c_bn_2 := H11.out.cell (b := bn) (cs := #[.int .u64 A, .int .u64 t, .int .u64 B]) (t := 41) (by simp) 2 rfl
          go_wp2_with fail
          refine (cC.out _).mono ?_
          rintro e' w13 ⟨rfl, hb13⟩
          have H13 := Lib.hid (H11.out.next hb13)
          clear c_bn_0 c_bn_1 c_bn_2
          clear hb13 H11
          have c_bn_0 := H13.out.cell (b := bn) (cs := #[.int .u64 A, .int .u64 t, .int .u64 B]) (t := 41) (by simp) 0 rfl
          have c_bn_1 := H13.out.cell (b := bn) (cs := #[.int .u64 A, .int .u64 t, .int .u64 B]) (t := 41) (by simp) 1 rfl
          have c_bn_2 := H13.out.cell (b := bn) (cs := #[.int .u64 A, .int .u64 t, .int .u64 B]) (t := 41) (by simp) 2 rfl
          have c_b1_0 := H13.out.cell (b := b1) (cs := #[.int .u64 0, .int .u64 0, .int .u64 0]) (t := 41) (by simp) 0 rfl
          have c_b1_1 := H13.out.cell (b := b1) (cs := #[.int .u64 0, .int .u64 0, .int .u64 0]) (t := 41) (by simp) 1 rfl
          have c_b1_2 := H13.out.cell (b := b1) (cs := #[.int .u64 0, .int .u64 0, .int .u64 0]) (t := 41) (by simp) 2 rfl
          have f_b1_0 := H13.out.free (b := b1) (cs := #[.int .u64 0, .int .u64 0, .int .u64 0]) (t := 41) (by simp) 0
          have f_b1_1 := H13.out.free (b := b1) (cs := #[.int .u64 0, .int .u64 0, .int .u64 0]) (t := 41) (by simp) 1
          have f_b1_2 := H13.out.free (b := b1) (cs := #[.int .u64 0, .int .u64 0, .int .u64 0]) (t := 41) (by simp) 2
          have B4 := Lib.hid (bSet (bSet (bSet H13.out.2 (b := b1) (o := 0) (u := .int .u64 A) (by have := ho.out; omega)) (b := b1) (o := 1) (u := .int .u64 t) (by have := ho.out; omega)) (b := b1) (o := 2) (u := .int .u64 B) (by have := ho.out; omega))
          have hR := (H13.out.row (b := b1) (cs := #[.int .u64 0, .int .u64 0, .int .u64 0]) (t := 41) (by simp)).set3 (v0 := .int .u64 A) (v1 := .int .u64 t) (v2 := .int .u64 B)
          have s0 := hR.cell 0 rfl
          have s1 := hR.cell 1 rfl
          have s2 := hR.cell 2 rfl
          clear hR
          go_wp2_with fail
          have AB2 := AB.out
          rw [← hT.out] at AB2
          refine bodyPost_ret (v := .tuple #[ntV A t B, .nilIface]) (by simp [results, Tryd.results24, go_sem, s0, s1, s2]) rfl ⟨.inl ⟨⟨by omega, by omega⟩, ?_⟩, B4.out⟩
          rw [← AB2.1, ← AB2.2]
        · have cC := Lib.hid (fun w => nCheckN A t B hm w)
          have hm2 : ¬ (Obol.num8 (T.take 8) < 4294967296 ∧ Obol.num8 (T.drop 8) < 288230376287764481) := fun h => hm ⟨by have := AB.out.1; omega, t1, by have := AB.out.2; omega⟩
          rw [← hT.out] at hm2
          replace hm2 := Lib.hid hm2
          clear hm
          have c_bn_0 := H11.out.cell (b := bn) (cs := #[.int .u64 A, .int .u64 t, .int .u64 B]) (t := 41) (by simp) 0 rfl
          have c_bn_1 := H11.out.cell (b := bn) (cs := #[.int .u64 A, .int .u64 t, .int .u64 B]) (t := 41) (by simp) 1 rfl
          have c_bn_2 := H11.out.cell (b := bn) (cs := #[.int .u64 A, .int .u64 t, .int .u64 B]) (t := 41) (by simp) 2 rfl
          go_wp2_with fail
          refine (cC.out _).mono ?_
          rintro e' w13 ⟨rfl, hb13⟩
          have H13 := Lib.hid (H11.out.next hb13)
          clear c_bn_0 c_bn_1 c_bn_2
          clear hb13 H11
          have c_b1_0 := H13.out.cell (b := b1) (cs := #[.int .u64 0, .int .u64 0, .int .u64 0]) (t := 41) (by simp) 0 rfl
          have c_b1_1 := H13.out.cell (b := b1) (cs := #[.int .u64 0, .int .u64 0, .int .u64 0]) (t := 41) (by simp) 1 rfl
          have c_b1_2 := H13.out.cell (b := b1) (cs := #[.int .u64 0, .int .u64 0, .int .u64 0]) (t := 41) (by simp) 2 rfl
          have f_b1_0 := H13.out.free (b := b1) (cs := #[.int .u64 0, .int .u64 0, .int .u64 0]) (t := 41) (by simp) 0
          have f_b1_1 := H13.out.free (b := b1) (cs := #[.int .u64 0, .int .u64 0, .int .u64 0]) (t := 41) (by simp) 1
          have f_b1_2 := H13.out.free (b := b1) (cs := #[.int .u64 0, .int .u64 0, .int .u64 0]) (t := 41) (by simp) 2
          have B4 := Lib.hid (bSet (bSet (bSet H13.out.2 (b := b1) (o := 0) (u := .int .u64 0) (by have := ho.out; omega)) (b := b1) (o := 1) (u := .int .u64 0) (by have := ho.out; omega)) (b := b1) (o := 2) (u := .int .u64 0) (by have := ho.out; omega))
          have hR := (H13.out.row (b := b1) (cs := #[.int .u64 0, .int .u64 0, .int .u64 0]) (t := 41) (by simp)).set3 (v0 := .int .u64 0) (v1 := .int .u64 0) (v2 := .int .u64 0)
          have s0 := hR.cell 0 rfl
          have s1 := hR.cell 1 rfl
          have s2 := hR.cell 2 rfl
          clear hR
          go_wp2_with fail
          refine bodyPost_ret (v := .tuple #[ntV 0 0 0, errN 6]) (by simp [results, Tryd.results24, go_sem, s0, s1, s2]) rfl ⟨.inr ⟨hm2.out, rfl⟩, B4.out⟩
      · go_simp
        refine hK.out _ _ ?_ (fun hHeld => ?_)
        · exact ⟨HR.cell (HR.alloc hHeld.2.2 _) (b := bt) (cs := #[.int .u64 A, .int .u64 B]) (t := 76) (by simp) 0 rfl, HR.cell (HR.alloc hHeld.2.2 _) (b := bt) (cs := #[.int .u64 A, .int .u64 B]) (t := 76) (by simp) 1 rfl, (HR.alloc hHeld.2.2 _)⟩
        clear hK K
        try simp only [Act.put, List.setIfInBounds_toArray, List.set_cons_zero, List.set_cons_succ]
        refine stepH 3 (by kernel_rfl) rfl (by rfl) (fun K hK => ?_)
        go_simp
        refine (cT.out _).mono ?_
        rintro e wq' ⟨rfl, nq1, rfl⟩
        refine hK.out _ _ ?_ (fun hHeld => ?_)
        · exact ⟨HR.cell (HR.like hHeld.2.2 rfl rfl rfl rfl) (b := bt) (cs := #[.int .u64 A, .int .u64 B]) (t := 76) (by simp) 0 rfl, HR.cell (HR.like hHeld.2.2 rfl rfl rfl rfl) (b := bt) (cs := #[.int .u64 A, .int .u64 B]) (t := 76) (by simp) 1 rfl, (HR.like hHeld.2.2 rfl rfl rfl rfl)⟩
        clear hK K
        try simp only [Act.put, List.setIfInBounds_toArray, List.set_cons_zero, List.set_cons_succ]
        refine takeH 6 (fun _ _ _ _ _ h => h) (by kernel_rfl) hHeld rfl (by kernel_rfl) (by rfl) (v := ?_) ?_ ?_
        rotate_left
        ((intro wz hz; (try dsimp only at hz); go_simp) <;> with_reducible rfl)
        try simp only [Act.put, List.setIfInBounds_toArray, List.set_cons_zero, List.set_cons_succ]
        have hrow : Row ((wr.alloc (.cells #[.int .u64 0, .int .u64 0, .int .u64 0] 41)).drewN (1 + nq1)) wr.heap.size #[.int .u64 0, .int .u64 0, .int .u64 0] 41 := Row.drewN (Row.new _ _ _) _
        have rc0 := hrow.cell 0 rfl
        have rc1 := hrow.cell 1 rfl
        have rc2 := hrow.cell 2 rfl
        have rf0 := hrow.free 0
        have rf1 := hrow.free 1
        have rf2 := hrow.free 2
        refine stepH 8 (by kernel_rfl) rfl (by rfl) (fun K hK => ?_)
        go_simp
        refine hK.out _ _ ?_ (fun hHeld => ?_)
        · exact ⟨HR.cell (HR.other (HR.other (HR.other (show HR w ((wr.alloc (.cells #[.int .u64 0, .int .u64 0, .int .u64 0] 41)).drewN (1 + nq1)) [(bt, #[.int .u64 A, .int .u64 B], 76), (b1, #[.int .u64 0, .int .u64 0, .int .u64 0], 41)] from HR.like hHeld.2.2 rfl rfl rfl rfl) (by have := hlt17; simp; omega) (by omega)) (by have := hlt17; simp; omega) (by omega)) (by have := hlt17; simp; omega) (by omega)) (b := bt) (cs := #[.int .u64 A, .int .u64 B]) (t := 76) (by simp) 0 rfl, HR.cell (HR.other (HR.other (HR.other (show HR w ((wr.alloc (.cells #[.int .u64 0, .int .u64 0, .int .u64 0] 41)).drewN (1 + nq1)) [(bt, #[.int .u64 A, .int .u64 B], 76), (b1, #[.int .u64 0, .int .u64 0, .int .u64 0], 41)] from HR.like hHeld.2.2 rfl rfl rfl rfl) (by have := hlt17; simp; omega) (by omega)) (by have := hlt17; simp; omega) (by omega)) (by have := hlt17; simp; omega) (by omega)) (b := bt) (cs := #[.int .u64 A, .int .u64 B]) (t := 76) (by simp) 1 rfl, (HR.other (HR.other (HR.other (show HR w ((wr.alloc (.cells #[.int .u64 0, .int .u64 0, .int .u64 0] 41)).drewN (1 + nq1)) [(bt, #[.int .u64 A, .int .u64 B], 76), (b1, #[.int .u64 0, .int .u64 0, .int .u64 0], 41)] from HR.like hHeld.2.2 rfl rfl rfl rfl) (by have := hlt17; simp; omega) (by omega)) (by have := hlt17; simp; omega) (by omega)) (by have := hlt17; simp; omega) (by omega))⟩
        clear hK K
        try simp only [Act.put, List.setIfInBounds_toArray, List.set_cons_zero, List.set_cons_succ]
        refine wpAnyH_done (by kernel_rfl) (NoPanic.normal ?_) _
        have H11 := Lib.hid (HR.add (HR.sub hHeld.2.2 (qs := [(b1, #[.int .u64 0, .int .u64 0, .int .u64 0], 41)]) (by simp)) (show Row (((((wr.alloc (.cells #[.int .u64 0, .int .u64 0, .int .u64 0] 41)).drewN (1 + nq1)).setCell ⟨wr.heap.size, 0, none⟩ (.int .u64 A)).setCell ⟨wr.heap.size, 1, none⟩ (.int .u64 t)).setCell ⟨wr.heap.size, 2, none⟩ (.int .u64 B)) wr.heap.size #[.int .u64 A, .int .u64 t, .int .u64 B] 41 from (show Row ((wr.alloc (.cells #[.int .u64 0, .int .u64 0, .int .u64 0] 41)).drewN (1 + nq1)) wr.heap.size #[.int .u64 0, .int .u64 0, .int .u64 0] 41 from Row.drewN (Row.new _ _ _) _).set3))
        clear hHeld hrow rc0 rc1 rc2 rf0 rf1 rf2
        generalize ((((wr.alloc (.cells #[.int .u64 0, .int .u64 0, .int .u64 0] 41)).drewN (1 + nq1)).setCell ⟨wr.heap.size, 0, none⟩ (.int .u64 A)).setCell ⟨wr.heap.size, 1, none⟩ (.int .u64 t)).setCell ⟨wr.heap.size, 2, none⟩ (.int .u64 B) = w12 at H11 ⊢
        obtain ⟨bn, hbn⟩ : ∃ z, wr.heap.size = z := ⟨_, rfl⟩
        rw [hbn] at H11 hlt17 ⊢
        replace hbn := Lib.hid hbn
        replace hlt17 := Lib.hid hlt17
        clear H10
        by_cases hm : mayI A t B
        · have cC := Lib.hid (fun w => nCheckY A t B hm w)
          obtain ⟨m1, m2, m3⟩ := hm
          have c_bn_0 := H11.out.cell (b := bn) (cs := #[.int .u64 A, .int .u64 t, .int .u64 B]) (t := 41) (by simp) 0 rfl
          have c_bn_1 := H11.out.cell (b := bn) (cs := #[.int .u64 A, .int .u64 t, .int .u64 B]) (t := 41) (by simp) 1 rfl
          have c_bn_2 := H11.out.cell (b := bn) (cs := #[.int .u64 A, .int .u64 t, .int .u64 B]) (t := 41) (by simp) 2 rfl
          go_wp2_with fail
          refine (cC.out _).mono ?_
          rintro e' w13 ⟨rfl, hb13⟩
          have H13 := Lib.hid (H11.out.next hb13)
          clear c_bn_0 c_bn_1 c_bn_2
          clear hb13 H11
          have c_bn_0 := H13.out.cell (b := bn) (cs := #[.int .u64 A, .int .u64 t, .int .u64 B]) (t := 41) (by simp) 0 rfl
          have c_bn_1 := H13.out.cell (b := bn) (cs := #[.int .u64 A, .int .u64 t, .int .u64 B]) (t := 41) (by simp) 1 rfl
          have c_bn_2 := H13.out.cell (b := bn) (cs := #[.int .u64 A, .int .u64 t, .int .u64 B]) (t := 41) (by simp) 2 rfl
          have c_b1_0 := H13.out.cell (b := b1) (cs := #[.int .u64 0, .int .u64 0, .int .u64 0]) (t := 41) (by simp) 0 rfl
          have c_b1_1 := H13.out.cell (b := b1) (cs := #[.int .u64 0, .int .u64 0, .int .u64 0]) (t := 41) (by simp) 1 rfl
          have c_b1_2 := H13.out.cell (b := b1) (cs := #[.int .u64 0, .int .u64 0, .int .u64 0]) (t := 41) (by simp) 2 rfl
          have f_b1_0 := H13.out.free (b := b1) (cs := #[.int .u64 0, .int .u64 0, .int .u64 0]) (t := 41) (by simp) 0
          have f_b1_1 := H13.out.free (b := b1) (cs := #[.int .u64 0, .int .u64 0, .int .u64 0]) (t := 41) (by simp) 1
          have f_b1_2 := H13.out.free (b := b1) (cs := #[.int .u64 0, .int .u64 0, .int .u64 0]) (t := 41) (by simp) 2
          have B4 := Lib.hid (bSet (bSet (bSet H13.out.2 (b := b1) (o := 0) (u := .int .u64 A) (by have := ho.out; omega)) (b := b1) (o := 1) (u := .int .u64 t) (by have := ho.out; omega)) (b := b1) (o := 2) (u := .int .u64 B) (by have := ho.out; omega))
          have hR := (H13.out.row (b := b1) (cs := #[.int .u64 0, .int .u64 0, .int .u64 0]) (t := 41) (by simp)).set3 (v0 := .int .u64 A) (v1 := .int .u64 t) (v2 := .int .u64 B)
          have s0 := hR.cell 0 rfl
          have s1 := hR.cell 1 rfl
          have s2 := hR.cell 2 rfl
          clear hR
          go_wp2_with fail
          have AB2 := AB.out
          rw [← hT.out] at AB2
          refine bodyPost_ret (v := .tuple #[ntV A t B, .nilIface]) (by simp [results, Tryd.results24, go_sem, s0, s1, s2]) rfl ⟨.inl ⟨⟨by omega, by omega⟩, ?_⟩, B4.out⟩
          rw [← AB2.1, ← AB2.2]
        · have cC := Lib.hid (fun w => nCheckN A t B hm w)
          have hm2 : ¬ (Obol.num8 (T.take 8) < 4294967296 ∧ Obol.num8 (T.drop 8) < 288230376287764481) := fun h => hm ⟨by have := AB.out.1; omega, t1, by have := AB.out.2; omega⟩
          rw [← hT.out] at hm2
          replace hm2 := Lib.hid hm2
          clear hm
          have c_bn_0 := H11.out.cell (b := bn) (cs := #[.int .u64 A, .int .u64 t, .int .u64 B]) (t := 41) (by simp) 0 rfl
          have c_bn_1 := H11.out.cell (b := bn) (cs := #[.int .u64 A, .int .u64 t, .int .u64 B]) (t := 41) (by simp) 1 rfl
          have c_bn_2 := H11.out.cell (b := bn) (cs := #[.int .u64 A, .int .u64 t, .int .u64 B]) (t := 41) (by simp) 2 rfl
          go_wp2_with fail
          refine (cC.out _).mono ?_
          rintro e' w13 ⟨rfl, hb13⟩
          have H13 := Lib.hid (H11.out.next hb13)
          clear c_bn_0 c_bn_1 c_bn_2
          clear hb13 H11
          have c_b1_0 := H13.out.cell (b := b1) (cs := #[.int .u64 0, .int .u64 0, .int .u64 0]) (t := 41) (by simp) 0 rfl
          have c_b1_1 := H13.out.cell (b := b1) (cs := #[.int .u64 0, .int .u64 0, .int .u64 0]) (t := 41) (by simp) 1 rfl
          have c_b1_2 := H13.out.cell (b := b1) (cs := #[.int .u64 0, .int .u64 0, .int .u64 0]) (t := 41) (by simp) 2 rfl
          have f_b1_0 := H13.out.free (b := b1) (cs := #[.int .u64 0, .int .u64 0, .int .u64 0]) (t := 41) (by simp) 0
          have f_b1_1 := H13.out.free (b := b1) (cs := #[.int .u64 0, .int .u64 0, .int .u64 0]) (t := 41) (by simp) 1
          have f_b1_2 := H13.out.free (b := b1) (cs := #[.int .u64 0, .int .u64 0, .int .u64 0]) (t := 41) (by simp) 2
          have B4 := Lib.hid (bSet (bSet (bSet H13.out.2 (b := b1) (o := 0) (u := .int .u64 0) (by have := ho.out; omega)) (b := b1) (o := 1) (u := .int .u64 0) (by have := ho.out; omega)) (b := b1) (o := 2) (u := .int .u64 0) (by have := ho.out; omega))
          have hR := (H13.out.row (b := b1) (cs := #[.int .u64 0, .int .u64 0, .int .u64 0]) (t := 41) (by simp)).set3 (v0 := .int .u64 0) (v1 := .int .u64 0) (v2 := .int .u64 0)
          have s0 := hR.cell 0 rfl
          have s1 := hR.cell 1 rfl
          have s2 := hR.cell 2 rfl
          clear hR
          go_wp2_with fail
          refine bodyPost_ret (v := .tuple #[ntV 0 0 0, errN 6]) (by simp [results, Tryd.results24, go_sem, s0, s1, s2]) rfl ⟨.inr ⟨hm2.out, rfl⟩, B4.out⟩

end Go.Proofs.YtallfmiikjmgaaaDoor
/- Walks: package note: what was sealed is opened as it was. -/
namespace Obol
theorem sS_def : (72057593894066549 : Nat) = S := by decide +kernel
theorem sG_S (k : Nat) : Pnt.smul 72057593894066549 (Pnt.smul k G) = Pnt.zero := by
  rw [← Pnt.smul_mul, Nat.mul_comm, Pnt.smul_mul, sS_def, G_S, Pnt.smul_zero]
theorem sG_ne {k : Nat} (h1 : 1 ≤ k) (h2 : k < 72057593894066549) : Pnt.smul k G ≠ Pnt.zero := order_S G_S G_ne k h1 (by rw [← sS_def]; exact h2)
theorem num8_lo (v r : Nat) (hv : v < 18446744073709551616) : num8 ((be8 v ++ be8 r).take 8) = v := by
  rw [List.take_left' (by rfl)]; exact num_be v hv
theorem num8_hi (v r : Nat) (hr : r < 18446744073709551616) : num8 ((be8 v ++ be8 r).drop 8) = r := by
  rw [List.drop_left' (by rfl)]; exact num_be r hr
end Obol
namespace Go.Proofs.YtallfmiikjmgaaaDoor
open Go.RowKit

theorem gp_of : Obol.Pnt.of GP = Obol.G := by
  have h := Obol.of_n Obol.G
  rw [Obol.G_n] at h
  exact h
theorem gp_mul (k : Nat) : Obol.smulN GP k = (Obol.Pnt.smul k Obol.G).n := by rw [Obol.smulN_eq, gp_of]
theorem gp_comm (s e : Nat) : Obol.smulN (Obol.smulN GP s) e = Obol.smulN (Obol.smulN GP e) s := by
  rw [gp_mul, gp_mul, Obol.smulN_eq, Obol.smulN_eq, Obol.of_n, Obol.of_n, ← Obol.Pnt.smul_mul, ← Obol.Pnt.smul_mul, Nat.mul_comm]
theorem gp_in (k : Nat) : inN (Obol.smulN GP k) = true := by
  unfold inN
  rw [gp_mul, Obol.pt_isN, Bool.true_and, decide_eq_true_eq, Obol.smulN_eq, Obol.of_n, Obol.sG_S]
  exact Obol.zero_n
theorem gp_ne {k : Nat} (h1 : 1 ≤ k) (h2 : k < 72057593894066549) : Obol.smulN GP k ≠ (0, 1) := fun h => by
  rw [gp_mul] at h
  exact Obol.sG_ne h1 h2 (Obol.Pnt.n_inj (h.trans Obol.zero_n.symm))
theorem scN_key (k : Nat) : 1 ≤ Obol.scN k ∧ Obol.scN k < 72057593894066549 := by
  unfold Obol.scN; split
  · exact ⟨by decide, by decide⟩
  · have := Nat.mod_lt k (show 0 < 72057593894066549 by decide); omega
theorem nPointT (x y : Int) (x0 : 0 ≤ x) (y0 : 0 ≤ y) (hI : inN (x.toNat, y.toNat) = true) (hne : (x.toNat, y.toNat) ≠ (0, 1)) (w : World) :
    Calls Tryd.prog 39 #[edV x y] w fun e w' => e = .returned (.bool true) ∧ Below w.heap.size w w' := by
  by_cases hx : x = 0
  · have hy : y ≠ 1 := fun hy => hne (by rw [hx, hy]; rfl)
    exact nPointY x y x0 y0 w hI hy
  · exact nPointX x y x0 y0 w hI hx
theorem nPointF (x y : Int) (x0 : 0 ≤ x) (y0 : 0 ≤ y) (h : ¬ (inN (x.toNat, y.toNat) = true ∧ (x.toNat, y.toNat) ≠ (0, 1))) (w : World) :
    Calls Tryd.prog 39 #[edV x y] w fun e w' => e = .returned (.bool false) ∧ Below w.heap.size w w' := by
  by_cases hI : inN (x.toNat, y.toNat) = true
  · have he : (x.toNat, y.toNat) = (0, 1) := Classical.byContradiction fun hn => h ⟨hI, hn⟩
    have e1 : x.toNat = 0 := congrArg Prod.fst he
    have e2 : y.toNat = 1 := congrArg Prod.snd he
    obtain rfl : x = 0 := by omega
    obtain rfl : y = 1 := by omega
    exact nPointZ w
  · exact nPointN x y x0 y0 w (by simpa using hI)
theorem body_b8 (K : List Nat) (v r : Nat) : B8 32 (bodyL K v r) := ⟨by unfold bodyL; rw [Obol.sealed_len, (noteT_b8 v r).len], Obol.sealed_lt K z12 [] (noteT_b8 v r).lt⟩
theorem body_take (K : List Nat) (v r : Nat) : (bodyL K v r).take 16 = Obol.strm K z12 (noteT v r) := Obol.back_take K z12 [] _ (noteT_b8 v r).len
theorem body_drop (K : List Nat) (v r : Nat) : (bodyL K v r).drop 16 = Obol.bothL K z12 [] (Obol.strm K z12 (noteT v r)) := Obol.back_drop K z12 [] _ (noteT_b8 v r).len
theorem body_back (K : List Nat) (v r : Nat) : Obol.strm K z12 ((bodyL K v r).take 16) = Obol.be8 v ++ Obol.be8 r := by rw [body_take, Obol.strm_back]; rfl
theorem isN_of {p : Nat × Nat} (h : inN p = true) : Obol.isN p = true := by unfold inN at h; rw [Bool.and_eq_true] at h; exact h.1
theorem nOpenBack (k e v r : Int) (k1 : 1 ≤ k) (k2 : k < 288230376287764481) (h1 : 1 ≤ e) (h2 : e < 72057593894066549) (v0 : 0 ≤ v) (v1 : v < 4294967296) (r0 : 0 ≤ r) (r1 : r < 288230376287764481) (px py ex ey : Int) (ex0 : 0 ≤ ex) (ey0 : 0 ≤ ey) (hp : (px.toNat, py.toNat) = Obol.smulN GP (Obol.scN k.toNat)) (hE : (ex.toNat, ey.toNat) = Obol.smulN GP e.toNat) (gs cs : Nat) (w : World) (hG : RowsAt w) (hS : SlI w.heap.size w (some ⟨gs, 0, none⟩) cs (bodyL (secL (Obol.smulN GP e.toNat) (Obol.smulN (px.toNat, py.toNat) e.toNat)) v.toNat r.toNat)) :
    Calls Tryd.prog 24 #[.int .u64 k, .agg #[.int .u64 ex, .int .u64 ey, .slice (some ⟨gs, 0, none⟩) 32 cs]] w fun e' w' => e' = .returned (.tuple #[ntV v ((Obol.twoN k.toNat 2 : Nat) : Int) r, .nilIface]) ∧ Below w.heap.size w w' := by
  have hI : inN (ex.toNat, ey.toNat) = true := by rw [hE]; exact gp_in _
  have hne : (ex.toNat, ey.toNat) ≠ (0, 1) := by rw [hE]; exact gp_ne (by omega) (by omega)
  have hK : secL (Obol.smulN GP e.toNat) (Obol.smulN (px.toNat, py.toNat) e.toNat) = secL (ex.toNat, ey.toNat) (Obol.smulN (ex.toNat, ey.toNat) (Obol.scN k.toNat)) := by rw [hp, hE, gp_comm]
  rw [hK] at hS
  obtain ⟨K, hk⟩ : ∃ K, secL (ex.toNat, ey.toNat) (Obol.smulN (ex.toNat, ey.toNat) (Obol.scN k.toNat)) = K := ⟨_, rfl⟩
  rw [hk] at hS
  have hc := nOpen k ex ey k1 k2 ex0 ey0 (isN_of hI) (some ⟨gs, 0, none⟩) cs (bodyL K v.toNat r.toNat) (body_b8 _ _ _) (by rw [hk, body_take, body_drop]) (fun W => nPointT ex ey ex0 ey0 hI hne W) w hG hS
  rw [hk, body_back, Obol.num8_lo _ _ (by omega), Obol.num8_hi _ _ (by omega)] at hc
  refine hc.mono ?_
  rintro e' w' ⟨⟨_, h⟩ | ⟨h, _⟩, hb⟩
  · rw [Int.toNat_of_nonneg v0, Int.toNat_of_nonneg r0] at h
    exact ⟨h, hb⟩
  · exact (h ⟨by omega, by omega⟩).elim

end Go.Proofs.YtallfmiikjmgaaaDoor
/- Walks: the statements of layer 17: their head. -/
namespace Go.Proofs.YtallfmiikjmgaaaDoor
open Go.RowKit

set_option maxRecDepth 8000 in
set_option maxHeartbeats 4000000 in
theorem up17 (w : World) (hG : RowsAt w) : Calls Tryd.prog 11 #[] w fun e w' => e = .returned (.bool true) ∧ Below w.heap.size w w' := by
  have G := Lib.hid hG
  clear hG
  have cA := Lib.hid (fun w => nAddrY 77 (by omega) (by omega) w)
  have ht1 : Obol.twoN (77 : Int).toNat 2 < 288230376287764481 := Nat.lt_of_lt_of_eq (Obol.twoN_lt _ _) Obol.R_def
  have cB := nOpenBack 77 5 5 9 (by omega) (by omega) (by omega) (by omega) (by omega) (by omega) (by omega) (by omega)
  obtain ⟨t, ht⟩ : ∃ t : Int, ((Obol.twoN (77 : Int).toNat 2 : Nat) : Int) = t := ⟨_, rfl⟩
  rw [ht] at cA cB
  have t0 : 0 ≤ t := by omega
  have t1 : t < 288230376287764481 := by omega
  replace cB := Lib.hid cB
  clear ht ht1
  go_enter Tryd.func11, Tryd.ntmps11
  go_wp2_with fail
  refine (cA.out _).mono ?_
  rintro e' w1 ⟨px, py, rfl, px0, py0, pxR, pyR, hpx, hpy, hb1⟩
  have hp : (px.toNat, py.toNat) = Obol.smulN GP (Obol.scN (77 : Int).toNat) := Prod.ext (by show px.toNat = _; omega) (by show py.toNat = _; omega)
  have hIp : inN (px.toNat, py.toNat) = true := by rw [hp]; exact gp_in _
  have hNp : (px.toNat, py.toNat) ≠ (0, 1) := by rw [hp]; exact gp_ne (scN_key _).1 (scN_key _).2
  have cS := Lib.hid (fun W hG => nSeal 5 t 9 t px py 5 (by omega) (by omega) (by omega) (by omega) px0 py0 (by omega) (by omega) ⟨by omega, t1, by omega⟩ (fun W => nPointT px py px0 py0 hIp hNp W) (by omega) (by omega) W hG)
  replace hp := Lib.hid hp
  clear hpx hpy hIp hNp cA
  have H1 := Lib.hid ((HR.refl w).next hb1)
  clear hb1
  go_upto_region 2 with fail
  have hnH2 := H1.out.new #[.int .u64 t, .int .u64 px, .int .u64 py] 31
  generalize w1.alloc (.cells #[.int .u64 t, .int .u64 px, .int .u64 py] 31) = w2 at hnH2 ⊢
  obtain ⟨ba, hba⟩ : ∃ z, w1.heap.size = z := ⟨_, rfl⟩
  rw [hba] at hnH2 ⊢
  have H2 : Hid (HR w w2 [(ba, #[.int .u64 t, .int .u64 px, .int .u64 py], 31)]) := Lib.hid hnH2
  replace hba := Lib.hid hba
  clear hnH2 H1
  have c_ba_0 := H2.out.cell (b := ba) (cs := #[.int .u64 t, .int .u64 px, .int .u64 py]) (t := 31) (by simp) 0 rfl
  have c_ba_1 := H2.out.cell (b := ba) (cs := #[.int .u64 t, .int .u64 px, .int .u64 py]) (t := 31) (by simp) 1 rfl
  have c_ba_2 := H2.out.cell (b := ba) (cs := #[.int .u64 t, .int .u64 px, .int .u64 py]) (t := 31) (by simp) 2 rfl
  go_upto_region 3 with fail
  clear c_ba_0 c_ba_1 c_ba_2
  have hnH3 := H2.out.new #[.int .u64 5, .int .u64 t, .int .u64 9] 41
  generalize w2.alloc (.cells #[.int .u64 5, .int .u64 t, .int .u64 9] 41) = w3 at hnH3 ⊢
  obtain ⟨bn, hbn⟩ : ∃ z, w2.heap.size = z := ⟨_, rfl⟩
  rw [hbn] at hnH3 ⊢
  have H3 : Hid (HR w w3 [(bn, #[.int .u64 5, .int .u64 t, .int .u64 9], 41), (ba, #[.int .u64 t, .int .u64 px, .int .u64 py], 31)]) := Lib.hid hnH3
  replace hbn := Lib.hid hbn
  clear hnH3 H2
  have c_bn_0 := H3.out.cell (b := bn) (cs := #[.int .u64 5, .int .u64 t, .int .u64 9]) (t := 41) (by simp) 0 rfl
  have c_bn_1 := H3.out.cell (b := bn) (cs := #[.int .u64 5, .int .u64 t, .int .u64 9]) (t := 41) (by simp) 1 rfl
  have c_bn_2 := H3.out.cell (b := bn) (cs := #[.int .u64 5, .int .u64 t, .int .u64 9]) (t := 41) (by simp) 2 rfl
  have c_ba_0 := H3.out.cell (b := ba) (cs := #[.int .u64 t, .int .u64 px, .int .u64 py]) (t := 31) (by simp) 0 rfl
  have c_ba_1 := H3.out.cell (b := ba) (cs := #[.int .u64 t, .int .u64 px, .int .u64 py]) (t := 31) (by simp) 1 rfl
  have c_ba_2 := H3.out.cell (b := ba) (cs := #[.int .u64 t, .int .u64 px, .int .u64 py]) (t := 31) (by simp) 2 rfl
  go_wp2_with fail
  refine (cS.out _ (G.out.below H3.out.2)).mono ?_
  rintro e' w4 ⟨gs, cs, ex, ey, rfl, ex0, ey0, exR, eyR, hex, hey, hO, hb4⟩
  have hE : (ex.toNat, ey.toNat) = Obol.smulN GP (5 : Int).toNat := Prod.ext (by show ex.toNat = _; omega) (by show ey.toNat = _; omega)
  have H4 := Lib.hid (H3.out.next hb4)
  have O4 := Lib.hid hO
  clear c_bn_0 c_bn_1 c_bn_2 c_ba_0 c_ba_1 c_ba_2
  clear hb4 H3 hO hex hey cS
  go_upto_region 4 with fail
  have O5 := Lib.hid (O4.out.below (bAlloc (Below.refl _ w4) (.cells #[.int .u64 ex, .int .u64 ey, .slice (some ⟨gs, 0, none⟩) 32 cs] 44)))
  clear O4
  have hnH5 := H4.out.new #[.int .u64 ex, .int .u64 ey, .slice (some ⟨gs, 0, none⟩) 32 cs] 44
  generalize w4.alloc (.cells #[.int .u64 ex, .int .u64 ey, .slice (some ⟨gs, 0, none⟩) 32 cs] 44) = w5 at hnH5 O5 ⊢
  obtain ⟨bs, hbs⟩ : ∃ z, w4.heap.size = z := ⟨_, rfl⟩
  rw [hbs] at hnH5 ⊢
  have H5 : Hid (HR w w5 [(bs, #[.int .u64 ex, .int .u64 ey, .slice (some ⟨gs, 0, none⟩) 32 cs], 44), (bn, #[.int .u64 5, .int .u64 t, .int .u64 9], 41), (ba, #[.int .u64 t, .int .u64 px, .int .u64 py], 31)]) := Lib.hid hnH5
  replace hbs := Lib.hid hbs
  clear hnH5 H4
  have cO := Lib.hid (cB.out px py ex ey ex0 ey0 hp.out hE gs cs w5 (G.out.below H5.out.2) (OwnB.sl O5.out).2)
  clear cB O5
  have c_bs_0 := H5.out.cell (b := bs) (cs := #[.int .u64 ex, .int .u64 ey, .slice (some ⟨gs, 0, none⟩) 32 cs]) (t := 44) (by simp) 0 rfl
  have c_bs_1 := H5.out.cell (b := bs) (cs := #[.int .u64 ex, .int .u64 ey, .slice (some ⟨gs, 0, none⟩) 32 cs]) (t := 44) (by simp) 1 rfl
  have c_bs_2 := H5.out.cell (b := bs) (cs := #[.int .u64 ex, .int .u64 ey, .slice (some ⟨gs, 0, none⟩) 32 cs]) (t := 44) (by simp) 2 rfl
  go_wp2_with fail
  refine cO.out.mono ?_
  rintro e' w6 ⟨rfl, hb6⟩
  have H6 := Lib.hid (H5.out.next hb6)
  clear c_bs_0 c_bs_1 c_bs_2
  clear hb6 H5 cO
  go_upto_region 5 with fail
  have hnH7 := H6.out.new #[.int .u64 5, .int .u64 t, .int .u64 9] 41
  generalize w6.alloc (.cells #[.int .u64 5, .int .u64 t, .int .u64 9] 41) = w7 at hnH7 ⊢
  obtain ⟨bm, hbm⟩ : ∃ z, w6.heap.size = z := ⟨_, rfl⟩
  rw [hbm] at hnH7 ⊢
  have H7 : Hid (HR w w7 [(bm, #[.int .u64 5, .int .u64 t, .int .u64 9], 41), (bs, #[.int .u64 ex, .int .u64 ey, .slice (some ⟨gs, 0, none⟩) 32 cs], 44), (bn, #[.int .u64 5, .int .u64 t, .int .u64 9], 41), (ba, #[.int .u64 t, .int .u64 px, .int .u64 py], 31)]) := Lib.hid hnH7
  replace hbm := Lib.hid hbm
  clear hnH7 H6
  have c_bm_0 := H7.out.cell (b := bm) (cs := #[.int .u64 5, .int .u64 t, .int .u64 9]) (t := 41) (by simp) 0 rfl
  have c_bm_1 := H7.out.cell (b := bm) (cs := #[.int .u64 5, .int .u64 t, .int .u64 9]) (t := 41) (by simp) 1 rfl
  have c_bm_2 := H7.out.cell (b := bm) (cs := #[.int .u64 5, .int .u64 t, .int .u64 9]) (t := 41) (by simp) 2 rfl
  have c_bn_0 := H7.out.cell (b := bn) (cs := #[.int .u64 5, .int .u64 t, .int .u64 9]) (t := 41) (by simp) 0 rfl
  have c_bn_1 := H7.out.cell (b := bn) (cs := #[.int .u64 5, .int .u64 t, .int .u64 9]) (t := 41) (by simp) 1 rfl
  have c_bn_2 := H7.out.cell (b := bn) (cs := #[.int .u64 5, .int .u64 t, .int .u64 9]) (t := 41) (by simp) 2 rfl
  go_wp2_with fail
  have hE := fun W => eqErrC W 1 1
  refine (nHideN 0 (by omega) _).mono ?_
  rintro e' w8 ⟨rfl, rfl⟩
  go_wp2_with fail
  go_ret
  exact ⟨by simp, H7.out.2⟩

end Go.Proofs.YtallfmiikjmgaaaDoor
