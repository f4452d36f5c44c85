import Derived.Test.YtallfmiikjmgaaaDoorMK
set_option linter.unusedVariables false
set_option linter.unusedSimpArgs false
/- Walks: layer 17: sealed notes opened. -/
namespace Go.Proofs.YtallfmiikjmgaaaDoor
open Go.RowKit

theorem isN_lt {x y : Int} (x0 : 0 ≤ x) (y0 : 0 ≤ y) (h : Obol.isN (x.toNat, y.toNat) = true) : x < 288230376287764481 ∧ y < 288230376287764481 := by
  unfold Obol.isN at h
  simp only [Bool.and_eq_true, decide_eq_true_eq] at h
  have h1 : x.toNat < 288230376287764481 := Nat.lt_of_lt_of_eq h.1.1 Obol.R_def
  have h2 : y.toNat < 288230376287764481 := Nat.lt_of_lt_of_eq h.1.2 Obol.R_def
  omega
set_option maxRecDepth 8000 in
set_option maxHeartbeats 4000000 in
theorem walkOpensL (w : World) (G : Hid (RowsAt w)) (k x y : Int) (ao : Option Addr) (len cap : Nat) (k0 : 0 ≤ k) (k1 : k ≤ 18446744073709551615) (hl : 1000 < len) :
    Calls Tryd.prog 5 #[.int .u64 k, .agg #[.int .u64 x, .int .u64 y, .slice ao len cap]] w fun e w' => e = .returned (.bool true) ∧ Below w.heap.size w w' := by
  have hl1 : (1000 : Int) < (len : Int) := by omega
  go_enter Tryd.func5, Tryd.ntmps5
  go_upto_region 1 with fail
  have HB := Lib.hid ((HR.refl w).new #[.int .u64 x, .int .u64 y, .slice ao len cap] 44)
  generalize w.alloc (.cells #[.int .u64 x, .int .u64 y, .slice ao len cap] 44) = w0 at HB ⊢
  obtain ⟨b3, hb3⟩ : ∃ z, w.heap.size = z := ⟨_, rfl⟩
  have H0 : Hid (HR w w0 [(b3, #[.int .u64 x, .int .u64 y, .slice ao len cap], 44)]) := Lib.hid (by rw [← hb3]; exact HB.out)
  rw [hb3]
  replace hb3 := Lib.hid hb3
  clear HB
  have c_b3_0 := H0.out.cell (b := b3) (cs := #[.int .u64 x, .int .u64 y, .slice ao len cap]) (t := 44) (by simp) 0 rfl
  have c_b3_1 := H0.out.cell (b := b3) (cs := #[.int .u64 x, .int .u64 y, .slice ao len cap]) (t := 44) (by simp) 1 rfl
  have c_b3_2 := H0.out.cell (b := b3) (cs := #[.int .u64 x, .int .u64 y, .slice ao len cap]) (t := 44) (by simp) 2 rfl
  go_wp2_with fail
  refine (up17 _ (G.out.below H0.out.2)).mono ?_
  rintro e' w1 ⟨rfl, hbn⟩
  have H1 := Lib.hid (H0.out.next hbn)
  clear c_b3_0 c_b3_1 c_b3_2
  clear hbn H0
  have c_b3_0 := H1.out.cell (b := b3) (cs := #[.int .u64 x, .int .u64 y, .slice ao len cap]) (t := 44) (by simp) 0 rfl
  have c_b3_1 := H1.out.cell (b := b3) (cs := #[.int .u64 x, .int .u64 y, .slice ao len cap]) (t := 44) (by simp) 1 rfl
  have c_b3_2 := H1.out.cell (b := b3) (cs := #[.int .u64 x, .int .u64 y, .slice ao len cap]) (t := 44) (by simp) 2 rfl
  go_wp2_with fail
  go_ret
  exact ⟨by simp, H1.out.2⟩
set_option maxRecDepth 8000 in
set_option maxHeartbeats 4000000 in
theorem walkOpensK (w : World) (G : Hid (RowsAt w)) (k x y : Int) (ao : Option Addr) (len cap : Nat) (k0 : 0 ≤ k) (k1 : k ≤ 18446744073709551615) (hl : ¬ 1000 < len) (h : ¬ (1 ≤ k ∧ k < 288230376287764481)) :
    Calls Tryd.prog 5 #[.int .u64 k, .agg #[.int .u64 x, .int .u64 y, .slice ao len cap]] w fun e w' => e = .returned (.bool true) ∧ Below w.heap.size w w' := by
  have hl1 : ¬ (1000 : Int) < (len : Int) := by omega
  have cI := Lib.hid (fun W => nOpenKey k x y ao len cap h W)
  have cK := Lib.hid (fun W => r17KeyN k k0 h W)
  have hE := fun W => eqErrC W 1 1
  clear h
  go_enter Tryd.func5, Tryd.ntmps5
  go_upto_region 1 with fail
  have HB := Lib.hid ((HR.refl w).new #[.int .u64 x, .int .u64 y, .slice ao len cap] 44)
  generalize w.alloc (.cells #[.int .u64 x, .int .u64 y, .slice ao len cap] 44) = w0 at HB ⊢
  obtain ⟨b3, hb3⟩ : ∃ z, w.heap.size = z := ⟨_, rfl⟩
  have H0 : Hid (HR w w0 [(b3, #[.int .u64 x, .int .u64 y, .slice ao len cap], 44)]) := Lib.hid (by rw [← hb3]; exact HB.out)
  rw [hb3]
  replace hb3 := Lib.hid hb3
  clear HB
  have c_b3_0 := H0.out.cell (b := b3) (cs := #[.int .u64 x, .int .u64 y, .slice ao len cap]) (t := 44) (by simp) 0 rfl
  have c_b3_1 := H0.out.cell (b := b3) (cs := #[.int .u64 x, .int .u64 y, .slice ao len cap]) (t := 44) (by simp) 1 rfl
  have c_b3_2 := H0.out.cell (b := b3) (cs := #[.int .u64 x, .int .u64 y, .slice ao len cap]) (t := 44) (by simp) 2 rfl
  go_wp2_with fail
  refine (up17 _ (G.out.below H0.out.2)).mono ?_
  rintro e' w1 ⟨rfl, hbn⟩
  have H1 := Lib.hid (H0.out.next hbn)
  clear c_b3_0 c_b3_1 c_b3_2
  clear hbn H0
  have c_b3_0 := H1.out.cell (b := b3) (cs := #[.int .u64 x, .int .u64 y, .slice ao len cap]) (t := 44) (by simp) 0 rfl
  have c_b3_1 := H1.out.cell (b := b3) (cs := #[.int .u64 x, .int .u64 y, .slice ao len cap]) (t := 44) (by simp) 1 rfl
  have c_b3_2 := H1.out.cell (b := b3) (cs := #[.int .u64 x, .int .u64 y, .slice ao len cap]) (t := 44) (by simp) 2 rfl
  go_wp2_with fail
  refine (cI.out _).mono ?_
  rintro e' w2 ⟨rfl, hbn⟩
  have H2 := Lib.hid (H1.out.next hbn)
  clear c_b3_0 c_b3_1 c_b3_2
  clear hbn H1
  go_upto_region 5 with fail
  have hn := (H2.out).new #[.int .u64 0, .int .u64 0, .int .u64 0] 41
  generalize w2.alloc (.cells #[.int .u64 0, .int .u64 0, .int .u64 0] 41) = w3 at hn ⊢
  obtain ⟨bm, hbm⟩ : ∃ z, w2.heap.size = z := ⟨_, rfl⟩
  rw [hbm] at hn ⊢
  have H3 : Hid (HR w w3 [(bm, #[.int .u64 0, .int .u64 0, .int .u64 0], 41), (b3, #[.int .u64 x, .int .u64 y, .slice ao len cap], 44)]) := Lib.hid hn
  replace hbm := Lib.hid hbm
  clear hn H2
  have c_bm_0 := H3.out.cell (b := bm) (cs := #[.int .u64 0, .int .u64 0, .int .u64 0]) (t := 41) (by simp) 0 rfl
  have c_bm_1 := H3.out.cell (b := bm) (cs := #[.int .u64 0, .int .u64 0, .int .u64 0]) (t := 41) (by simp) 1 rfl
  have c_bm_2 := H3.out.cell (b := bm) (cs := #[.int .u64 0, .int .u64 0, .int .u64 0]) (t := 41) (by simp) 2 rfl
  have c_b3_0 := H3.out.cell (b := b3) (cs := #[.int .u64 x, .int .u64 y, .slice ao len cap]) (t := 44) (by simp) 0 rfl
  have c_b3_1 := H3.out.cell (b := b3) (cs := #[.int .u64 x, .int .u64 y, .slice ao len cap]) (t := 44) (by simp) 1 rfl
  have c_b3_2 := H3.out.cell (b := b3) (cs := #[.int .u64 x, .int .u64 y, .slice ao len cap]) (t := 44) (by simp) 2 rfl
  go_wp2_with fail
  refine (cK.out _).mono ?_
  rintro e' w4 ⟨rfl, rfl⟩
  go_wp2_with fail
  go_ret
  exact ⟨by simp, H3.out.2⟩
set_option maxRecDepth 8000 in
set_option maxHeartbeats 4000000 in
theorem walkOpensB (w : World) (G : Hid (RowsAt w)) (k x y : Int) (ao : Option Addr) (len cap : Nat) (k0 : 0 ≤ k) (k1 : k ≤ 18446744073709551615) (hl : ¬ 1000 < len) (h : 1 ≤ k ∧ k < 288230376287764481) (hI : ∀ W : World, Below w.heap.size w W → Calls Tryd.prog 24 #[.int .u64 k, .agg #[.int .u64 x, .int .u64 y, .slice ao len cap]] W fun e' w' => e' = .returned (.tuple #[ntV 0 0 0, errN 6]) ∧ Below W.heap.size W w') (hR : ∀ W : World, Below w.heap.size w W → Calls Tryd.prog 25 #[.int .u64 k, .agg #[.int .u64 x, .int .u64 y, .slice ao len cap]] W fun e' w' => e' = .returned (.tuple #[ntV 0 0 0, .bool false]) ∧ Below W.heap.size W w') :
    Calls Tryd.prog 5 #[.int .u64 k, .agg #[.int .u64 x, .int .u64 y, .slice ao len cap]] w fun e w' => e = .returned (.bool true) ∧ Below w.heap.size w w' := by
  have hl1 : ¬ (1000 : Int) < (len : Int) := by omega
  have cI := Lib.hid hI
  have cR := Lib.hid hR
  have cK := Lib.hid (fun W => r17KeyY k h.1 h.2 W)
  have hE := fun W => eqErrC W 6 6
  clear h hI hR
  go_enter Tryd.func5, Tryd.ntmps5
  go_upto_region 1 with fail
  have HB := Lib.hid ((HR.refl w).new #[.int .u64 x, .int .u64 y, .slice ao len cap] 44)
  generalize w.alloc (.cells #[.int .u64 x, .int .u64 y, .slice ao len cap] 44) = w0 at HB ⊢
  obtain ⟨b3, hb3⟩ : ∃ z, w.heap.size = z := ⟨_, rfl⟩
  have H0 : Hid (HR w w0 [(b3, #[.int .u64 x, .int .u64 y, .slice ao len cap], 44)]) := Lib.hid (by rw [← hb3]; exact HB.out)
  rw [hb3]
  replace hb3 := Lib.hid hb3
  clear HB
  have c_b3_0 := H0.out.cell (b := b3) (cs := #[.int .u64 x, .int .u64 y, .slice ao len cap]) (t := 44) (by simp) 0 rfl
  have c_b3_1 := H0.out.cell (b := b3) (cs := #[.int .u64 x, .int .u64 y, .slice ao len cap]) (t := 44) (by simp) 1 rfl
  have c_b3_2 := H0.out.cell (b := b3) (cs := #[.int .u64 x, .int .u64 y, .slice ao len cap]) (t := 44) (by simp) 2 rfl
  go_wp2_with fail
  refine (up17 _ (G.out.below H0.out.2)).mono ?_
  rintro e' w1 ⟨rfl, hbn⟩
  have H1 := Lib.hid (H0.out.next hbn)
  clear c_b3_0 c_b3_1 c_b3_2
  clear hbn H0
  have c_b3_0 := H1.out.cell (b := b3) (cs := #[.int .u64 x, .int .u64 y, .slice ao len cap]) (t := 44) (by simp) 0 rfl
  have c_b3_1 := H1.out.cell (b := b3) (cs := #[.int .u64 x, .int .u64 y, .slice ao len cap]) (t := 44) (by simp) 1 rfl
  have c_b3_2 := H1.out.cell (b := b3) (cs := #[.int .u64 x, .int .u64 y, .slice ao len cap]) (t := 44) (by simp) 2 rfl
  go_wp2_with fail
  refine (cI.out _ H1.out.2).mono ?_
  rintro e' w2 ⟨rfl, hbn⟩
  have H2 := Lib.hid (H1.out.next hbn)
  clear c_b3_0 c_b3_1 c_b3_2
  clear hbn H1
  go_upto_region 5 with fail
  have hn := (H2.out).new #[.int .u64 0, .int .u64 0, .int .u64 0] 41
  generalize w2.alloc (.cells #[.int .u64 0, .int .u64 0, .int .u64 0] 41) = w3 at hn ⊢
  obtain ⟨bm, hbm⟩ : ∃ z, w2.heap.size = z := ⟨_, rfl⟩
  rw [hbm] at hn ⊢
  have H3 : Hid (HR w w3 [(bm, #[.int .u64 0, .int .u64 0, .int .u64 0], 41), (b3, #[.int .u64 x, .int .u64 y, .slice ao len cap], 44)]) := Lib.hid hn
  replace hbm := Lib.hid hbm
  clear hn H2
  have c_bm_0 := H3.out.cell (b := bm) (cs := #[.int .u64 0, .int .u64 0, .int .u64 0]) (t := 41) (by simp) 0 rfl
  have c_bm_1 := H3.out.cell (b := bm) (cs := #[.int .u64 0, .int .u64 0, .int .u64 0]) (t := 41) (by simp) 1 rfl
  have c_bm_2 := H3.out.cell (b := bm) (cs := #[.int .u64 0, .int .u64 0, .int .u64 0]) (t := 41) (by simp) 2 rfl
  have c_b3_0 := H3.out.cell (b := b3) (cs := #[.int .u64 x, .int .u64 y, .slice ao len cap]) (t := 44) (by simp) 0 rfl
  have c_b3_1 := H3.out.cell (b := b3) (cs := #[.int .u64 x, .int .u64 y, .slice ao len cap]) (t := 44) (by simp) 1 rfl
  have c_b3_2 := H3.out.cell (b := b3) (cs := #[.int .u64 x, .int .u64 y, .slice ao len cap]) (t := 44) (by simp) 2 rfl
  go_wp2_with fail
  refine (cK.out _).mono ?_
  rintro e' w4 ⟨rfl, rfl⟩
  go_wp2_with fail
  refine (cR.out _ H3.out.2).mono ?_
  rintro e' w5 ⟨rfl, hbn⟩
  have H5 := Lib.hid (H3.out.next hbn)
  clear c_bm_0 c_bm_1 c_bm_2 c_b3_0 c_b3_1 c_b3_2
  clear hbn H3
  go_upto_region 9 with fail
  have hn := (H5.out).new #[.int .u64 0, .int .u64 0, .int .u64 0] 41
  generalize w5.alloc (.cells #[.int .u64 0, .int .u64 0, .int .u64 0] 41) = w6 at hn ⊢
  obtain ⟨bn, hbn⟩ : ∃ z, w5.heap.size = z := ⟨_, rfl⟩
  rw [hbn] at hn ⊢
  have H6 : Hid (HR w w6 [(bn, #[.int .u64 0, .int .u64 0, .int .u64 0], 41), (bm, #[.int .u64 0, .int .u64 0, .int .u64 0], 41), (b3, #[.int .u64 x, .int .u64 y, .slice ao len cap], 44)]) := Lib.hid hn
  replace hbn := Lib.hid hbn
  clear hn H5
  have c_bn_0 := H6.out.cell (b := bn) (cs := #[.int .u64 0, .int .u64 0, .int .u64 0]) (t := 41) (by simp) 0 rfl
  have c_bn_1 := H6.out.cell (b := bn) (cs := #[.int .u64 0, .int .u64 0, .int .u64 0]) (t := 41) (by simp) 1 rfl
  have c_bn_2 := H6.out.cell (b := bn) (cs := #[.int .u64 0, .int .u64 0, .int .u64 0]) (t := 41) (by simp) 2 rfl
  have c_bm_0 := H6.out.cell (b := bm) (cs := #[.int .u64 0, .int .u64 0, .int .u64 0]) (t := 41) (by simp) 0 rfl
  have c_bm_1 := H6.out.cell (b := bm) (cs := #[.int .u64 0, .int .u64 0, .int .u64 0]) (t := 41) (by simp) 1 rfl
  have c_bm_2 := H6.out.cell (b := bm) (cs := #[.int .u64 0, .int .u64 0, .int .u64 0]) (t := 41) (by simp) 2 rfl
  have c_b3_0 := H6.out.cell (b := b3) (cs := #[.int .u64 x, .int .u64 y, .slice ao len cap]) (t := 44) (by simp) 0 rfl
  have c_b3_1 := H6.out.cell (b := b3) (cs := #[.int .u64 x, .int .u64 y, .slice ao len cap]) (t := 44) (by simp) 1 rfl
  have c_b3_2 := H6.out.cell (b := b3) (cs := #[.int .u64 x, .int .u64 y, .slice ao len cap]) (t := 44) (by simp) 2 rfl
  go_wp2_with fail
  go_ret
  exact ⟨by simp, H6.out.2⟩
set_option maxRecDepth 8000 in
set_option maxHeartbeats 4000000 in
theorem walkOpensG (w : World) (G : Hid (RowsAt w)) (k x y : Int) (ao : Option Addr) (len cap : Nat) (k0 : 0 ≤ k) (k1 : k ≤ 18446744073709551615) (hl : ¬ 1000 < len) (h : 1 ≤ k ∧ k < 288230376287764481) (v t r : Int) (hI : ∀ W : World, Below w.heap.size w W → Calls Tryd.prog 24 #[.int .u64 k, .agg #[.int .u64 x, .int .u64 y, .slice ao len cap]] W fun e' w' => e' = .returned (.tuple #[ntV v t r, .nilIface]) ∧ Below W.heap.size W w') (hR : ∀ W : World, Below w.heap.size w W → Calls Tryd.prog 25 #[.int .u64 k, .agg #[.int .u64 x, .int .u64 y, .slice ao len cap]] W fun e' w' => e' = .returned (.tuple #[ntV v t r, .bool true]) ∧ Below W.heap.size W w') :
    Calls Tryd.prog 5 #[.int .u64 k, .agg #[.int .u64 x, .int .u64 y, .slice ao len cap]] w fun e w' => e = .returned (.bool true) ∧ Below w.heap.size w w' := by
  have hl1 : ¬ (1000 : Int) < (len : Int) := by omega
  have cI := Lib.hid hI
  have cR := Lib.hid hR
  have cK := Lib.hid (fun W => r17KeyY k h.1 h.2 W)
  clear h hI hR
  go_enter Tryd.func5, Tryd.ntmps5
  go_upto_region 1 with fail
  have HB := Lib.hid ((HR.refl w).new #[.int .u64 x, .int .u64 y, .slice ao len cap] 44)
  generalize w.alloc (.cells #[.int .u64 x, .int .u64 y, .slice ao len cap] 44) = w0 at HB ⊢
  obtain ⟨b3, hb3⟩ : ∃ z, w.heap.size = z := ⟨_, rfl⟩
  have H0 : Hid (HR w w0 [(b3, #[.int .u64 x, .int .u64 y, .slice ao len cap], 44)]) := Lib.hid (by rw [← hb3]; exact HB.out)
  rw [hb3]
  replace hb3 := Lib.hid hb3
  clear HB
  have c_b3_0 := H0.out.cell (b := b3) (cs := #[.int .u64 x, .int .u64 y, .slice ao len cap]) (t := 44) (by simp) 0 rfl
  have c_b3_1 := H0.out.cell (b := b3) (cs := #[.int .u64 x, .int .u64 y, .slice ao len cap]) (t := 44) (by simp) 1 rfl
  have c_b3_2 := H0.out.cell (b := b3) (cs := #[.int .u64 x, .int .u64 y, .slice ao len cap]) (t := 44) (by simp) 2 rfl
  go_wp2_with fail
  refine (up17 _ (G.out.below H0.out.2)).mono ?_
  rintro e' w1 ⟨rfl, hbn⟩
  have H1 := Lib.hid (H0.out.next hbn)
  clear c_b3_0 c_b3_1 c_b3_2
  clear hbn H0
  have c_b3_0 := H1.out.cell (b := b3) (cs := #[.int .u64 x, .int .u64 y, .slice ao len cap]) (t := 44) (by simp) 0 rfl
  have c_b3_1 := H1.out.cell (b := b3) (cs := #[.int .u64 x, .int .u64 y, .slice ao len cap]) (t := 44) (by simp) 1 rfl
  have c_b3_2 := H1.out.cell (b := b3) (cs := #[.int .u64 x, .int .u64 y, .slice ao len cap]) (t := 44) (by simp) 2 rfl
  go_wp2_with fail
  refine (cI.out _ H1.out.2).mono ?_
  rintro e' w2 ⟨rfl, hbn⟩
  have H2 := Lib.hid (H1.out.next hbn)
  clear c_b3_0 c_b3_1 c_b3_2
  clear hbn H1
  go_upto_region 5 with fail
  have hn := (H2.out).new #[.int .u64 v, .int .u64 t, .int .u64 r] 41
  generalize w2.alloc (.cells #[.int .u64 v, .int .u64 t, .int .u64 r] 41) = w3 at hn ⊢
  obtain ⟨bm, hbm⟩ : ∃ z, w2.heap.size = z := ⟨_, rfl⟩
  rw [hbm] at hn ⊢
  have H3 : Hid (HR w w3 [(bm, #[.int .u64 v, .int .u64 t, .int .u64 r], 41), (b3, #[.int .u64 x, .int .u64 y, .slice ao len cap], 44)]) := Lib.hid hn
  replace hbm := Lib.hid hbm
  clear hn H2
  have c_bm_0 := H3.out.cell (b := bm) (cs := #[.int .u64 v, .int .u64 t, .int .u64 r]) (t := 41) (by simp) 0 rfl
  have c_bm_1 := H3.out.cell (b := bm) (cs := #[.int .u64 v, .int .u64 t, .int .u64 r]) (t := 41) (by simp) 1 rfl
  have c_bm_2 := H3.out.cell (b := bm) (cs := #[.int .u64 v, .int .u64 t, .int .u64 r]) (t := 41) (by simp) 2 rfl
  have c_b3_0 := H3.out.cell (b := b3) (cs := #[.int .u64 x, .int .u64 y, .slice ao len cap]) (t := 44) (by simp) 0 rfl
  have c_b3_1 := H3.out.cell (b := b3) (cs := #[.int .u64 x, .int .u64 y, .slice ao len cap]) (t := 44) (by simp) 1 rfl
  have c_b3_2 := H3.out.cell (b := b3) (cs := #[.int .u64 x, .int .u64 y, .slice ao len cap]) (t := 44) (by simp) 2 rfl
  go_wp2_with fail
  refine (cK.out _).mono ?_
  rintro e' w4 ⟨rfl, rfl⟩
  go_wp2_with fail
  refine (cR.out _ H3.out.2).mono ?_
  rintro e' w5 ⟨rfl, hbn⟩
  have H5 := Lib.hid (H3.out.next hbn)
  clear c_bm_0 c_bm_1 c_bm_2 c_b3_0 c_b3_1 c_b3_2
  clear hbn H3
  go_upto_region 9 with fail
  have hn := (H5.out).new #[.int .u64 v, .int .u64 t, .int .u64 r] 41
  generalize w5.alloc (.cells #[.int .u64 v, .int .u64 t, .int .u64 r] 41) = w6 at hn ⊢
  obtain ⟨bn, hbn⟩ : ∃ z, w5.heap.size = z := ⟨_, rfl⟩
  rw [hbn] at hn ⊢
  have H6 : Hid (HR w w6 [(bn, #[.int .u64 v, .int .u64 t, .int .u64 r], 41), (bm, #[.int .u64 v, .int .u64 t, .int .u64 r], 41), (b3, #[.int .u64 x, .int .u64 y, .slice ao len cap], 44)]) := Lib.hid hn
  replace hbn := Lib.hid hbn
  clear hn H5
  have c_bn_0 := H6.out.cell (b := bn) (cs := #[.int .u64 v, .int .u64 t, .int .u64 r]) (t := 41) (by simp) 0 rfl
  have c_bn_1 := H6.out.cell (b := bn) (cs := #[.int .u64 v, .int .u64 t, .int .u64 r]) (t := 41) (by simp) 1 rfl
  have c_bn_2 := H6.out.cell (b := bn) (cs := #[.int .u64 v, .int .u64 t, .int .u64 r]) (t := 41) (by simp) 2 rfl
  have c_bm_0 := H6.out.cell (b := bm) (cs := #[.int .u64 v, .int .u64 t, .int .u64 r]) (t := 41) (by simp) 0 rfl
  have c_bm_1 := H6.out.cell (b := bm) (cs := #[.int .u64 v, .int .u64 t, .int .u64 r]) (t := 41) (by simp) 1 rfl
  have c_bm_2 := H6.out.cell (b := bm) (cs := #[.int .u64 v, .int .u64 t, .int .u64 r]) (t := 41) (by simp) 2 rfl
  have c_b3_0 := H6.out.cell (b := b3) (cs := #[.int .u64 x, .int .u64 y, .slice ao len cap]) (t := 44) (by simp) 0 rfl
  have c_b3_1 := H6.out.cell (b := b3) (cs := #[.int .u64 x, .int .u64 y, .slice ao len cap]) (t := 44) (by simp) 1 rfl
  have c_b3_2 := H6.out.cell (b := b3) (cs := #[.int .u64 x, .int .u64 y, .slice ao len cap]) (t := 44) (by simp) 2 rfl
  go_wp2_with fail
  go_ret
  exact ⟨by simp, H6.out.2⟩
theorem walkOpens (w : World) (hG : RowsAt w) (k x y : Int) (ao : Option Addr) (len cap : Nat) (L : List Nat) (H : B8 len L) (hl : len ≤ cap) (hc : cap ≤ 9223372036854775807) (hn : ao = none → len = 0 ∧ cap = 0) (hb : 0 < len → ∃ b o, ao = some ⟨b, o, none⟩ ∧ BL w b o L) (k0 : 0 ≤ k) (k1 : k ≤ 18446744073709551615) (x0 : 0 ≤ x) (y0 : 0 ≤ y) :
    Calls Tryd.prog 5 #[.int .u64 k, .agg #[.int .u64 x, .int .u64 y, .slice ao len cap]] w fun e w' => e = .returned (.bool true) ∧ Below w.heap.size w w' := by
  have G := Lib.hid hG
  have S := sl6 H hl hc hn hb
  by_cases h1000 : 1000 < len
  · exact walkOpensL w G k x y ao len cap k0 k1 h1000
  by_cases hk : 1 ≤ k ∧ k < 288230376287764481
  · by_cases hp : inN (x.toNat, y.toNat) = true ∧ (x.toNat, y.toNat) ≠ (0, 1)
    · have hP := fun W => nPointT x y x0 y0 hp.1 hp.2 W
      have hPr := fun W => r17PointT x y x0 y0 hp.1 hp.2 W
      have hEn := isN_of hp.1
      obtain ⟨xR, yR⟩ := isN_lt x0 y0 hEn
      have RL : len ≠ 32 → (∀ W : World, Below w.heap.size w W → Calls Tryd.prog 25 #[.int .u64 k, .agg #[.int .u64 x, .int .u64 y, .slice ao len cap]] W fun e' w' => e' = .returned (.tuple #[ntV 0 0 0, .bool false]) ∧ Below W.heap.size W w') := fun h W _ => r17OpenL k x y ao len cap hPr h W
      by_cases h16 : len < 16
      · exact walkOpensB w G k x y ao len cap k0 k1 h1000 hk (fun W hW => nOpenShort k x y hk.1 hk.2 x0 y0 hEn ao len cap h16 hP W (hG.below hW)) (RL (by omega))
      · obtain ⟨n, rfl⟩ : ∃ n, len = n + 16 := ⟨len - 16, by omega⟩
        by_cases hg : Obol.bothL (secL (x.toNat, y.toNat) (Obol.smulN (x.toNat, y.toNat) (Obol.scN k.toNat))) z12 [] (L.take n) = L.drop n
        · by_cases h2 : n = 16
          · subst h2
            have cI := fun W hW => nOpen k x y hk.1 hk.2 x0 y0 hEn ao cap L H hg hP W (hG.below hW) (S.next hW)
            have cR := fun W hW => r17Open k x y k0 k1 x0 y0 xR yR hEn ao cap L H hg hPr W (S.next hW)
            by_cases hm : Obol.num8 ((Obol.strm (secL (x.toNat, y.toNat) (Obol.smulN (x.toNat, y.toNat) (Obol.scN k.toNat))) z12 (L.take 16)).take 8) < 4294967296 ∧ Obol.num8 ((Obol.strm (secL (x.toNat, y.toNat) (Obol.smulN (x.toNat, y.toNat) (Obol.scN k.toNat))) z12 (L.take 16)).drop 8) < 288230376287764481
            · refine walkOpensG w G k x y ao (16 + 16) cap k0 k1 h1000 hk ((Obol.num8 ((Obol.strm (secL (x.toNat, y.toNat) (Obol.smulN (x.toNat, y.toNat) (Obol.scN k.toNat))) z12 (L.take 16)).take 8) : Nat) : Int) ((Obol.twoN k.toNat 2 : Nat) : Int) ((Obol.num8 ((Obol.strm (secL (x.toNat, y.toNat) (Obol.smulN (x.toNat, y.toNat) (Obol.scN k.toNat))) z12 (L.take 16)).drop 8) : Nat) : Int) (fun W hW => (cI W hW).mono ?_) (fun W hW => (cR W hW).mono ?_)
              · rintro e' w' ⟨⟨_, h⟩ | ⟨h, _⟩, hb⟩
                · exact ⟨h, hb⟩
                · exact (h hm).elim
              · rintro e' w' ⟨⟨_, h⟩ | ⟨h, _⟩, hb⟩
                · exact ⟨h, hb⟩
                · exact (h hm).elim
            · refine walkOpensB w G k x y ao (16 + 16) cap k0 k1 h1000 hk (fun W hW => (cI W hW).mono ?_) (fun W hW => (cR W hW).mono ?_)
              · rintro e' w' ⟨⟨h, _⟩ | ⟨_, h⟩, hb⟩
                · exact (hm h).elim
                · exact ⟨h, hb⟩
              · rintro e' w' ⟨⟨h, _⟩ | ⟨_, h⟩, hb⟩
                · exact (hm h).elim
                · exact ⟨h, hb⟩
          · exact walkOpensB w G k x y ao (n + 16) cap k0 k1 h1000 hk (fun W hW => nOpenLong k x y hk.1 hk.2 x0 y0 hEn ao n cap L H (by omega) h2 hg hP W (hG.below hW) (S.next hW)) (RL (by omega))
        · have cI := fun W hW => nOpenBad k x y hk.1 hk.2 x0 y0 hEn ao n cap L H (by omega) hg hP W (hG.below hW) (S.next hW)
          by_cases h2 : n = 16
          · subst h2
            exact walkOpensB w G k x y ao (16 + 16) cap k0 k1 h1000 hk cI (fun W hW => r17OpenB k x y k0 k1 x0 y0 xR yR hEn ao cap L H hg hPr W (S.next hW))
          · exact walkOpensB w G k x y ao (n + 16) cap k0 k1 h1000 hk cI (RL (by omega))
    · exact walkOpensB w G k x y ao len cap k0 k1 h1000 hk (fun W _ => nOpenPoint k x y hk.1 hk.2 ao len cap (fun W => nPointF x y x0 y0 hp W) W) (fun W _ => r17OpenP k x y ao len cap (fun W => r17PointF x y x0 y0 hp W) W)
  · exact walkOpensK w G k x y ao len cap k0 k1 h1000 hk

end Go.Proofs.YtallfmiikjmgaaaDoor
