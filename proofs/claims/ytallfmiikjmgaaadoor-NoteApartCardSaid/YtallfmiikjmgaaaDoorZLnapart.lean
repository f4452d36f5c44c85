import Derived.Test.YtallfmiikjmgaaaDoorMJ
import Derived.Test.YtallfmiikjmgaaaDoorZWref17
set_option linter.unusedVariables false
set_option linter.unusedSimpArgs false
/- Walks: layer 17: two notes of one mark. -/
namespace Go.Proofs.YtallfmiikjmgaaaDoor
open Go.RowKit

set_option maxRecDepth 8000 in
set_option maxHeartbeats 2000000 in
theorem walkApartN (w : World) (G : Hid (RowsAt w)) (a b c a' b' c' : Int) (a0 : 0 ≤ a) (a1 : a ≤ 18446744073709551615) (b0 : 0 ≤ b) (b1 : b ≤ 18446744073709551615) (c0 : 0 ≤ c) (c1 : c ≤ 18446744073709551615) (a0' : 0 ≤ a') (a1' : a' ≤ 18446744073709551615) (b0' : 0 ≤ b') (b1' : b' ≤ 18446744073709551615) (c0' : 0 ≤ c') (c1' : c' ≤ 18446744073709551615) (h : ¬ mayI a b c) :
    Calls Tryd.prog 10 #[ntV a b c, ntV a' b' c'] w fun e w' => e = .returned (.bool true) ∧ Below w.heap.size w w' := by
  have cA := Lib.hid (fun w => nMarkN a b c h w)
  clear h
  by_cases h2 : mayI a' b' c'
  · have cB := Lib.hid (fun w => nMarkY a' b' c' a0' b0' c0' h2 w)
    clear h2
    go_enter Tryd.func10, Tryd.ntmps10
    go_upto_region 1 with fail
    have HB := Lib.hid (((HR.refl w).new #[.int .u64 a, .int .u64 b, .int .u64 c] 41).new #[.int .u64 a', .int .u64 b', .int .u64 c'] 41)
    simp only [World.size_alloc] at HB
    generalize (w.alloc (.cells #[.int .u64 a, .int .u64 b, .int .u64 c] 41)).alloc (.cells #[.int .u64 a', .int .u64 b', .int .u64 c'] 41) = w0 at HB ⊢
    obtain ⟨q2, hq2⟩ : ∃ z, w.heap.size + 1 = z := ⟨_, rfl⟩
    obtain ⟨q1, hq1⟩ : ∃ z, w.heap.size = z := ⟨_, rfl⟩
    have H0 : Hid (HR w w0 [(q2, #[.int .u64 a', .int .u64 b', .int .u64 c'], 41), (q1, #[.int .u64 a, .int .u64 b, .int .u64 c], 41)]) := Lib.hid (by rw [← hq2, ← hq1]; exact HB.out)
    rw [hq2, hq1]
    replace hq1 := Lib.hid hq1
    replace hq2 := Lib.hid hq2
    clear HB
    have c_q2_0 := H0.out.cell (b := q2) (cs := #[.int .u64 a', .int .u64 b', .int .u64 c']) (t := 41) (by simp) 0 rfl
    have c_q2_1 := H0.out.cell (b := q2) (cs := #[.int .u64 a', .int .u64 b', .int .u64 c']) (t := 41) (by simp) 1 rfl
    have c_q2_2 := H0.out.cell (b := q2) (cs := #[.int .u64 a', .int .u64 b', .int .u64 c']) (t := 41) (by simp) 2 rfl
    have c_q1_0 := H0.out.cell (b := q1) (cs := #[.int .u64 a, .int .u64 b, .int .u64 c]) (t := 41) (by simp) 0 rfl
    have c_q1_1 := H0.out.cell (b := q1) (cs := #[.int .u64 a, .int .u64 b, .int .u64 c]) (t := 41) (by simp) 1 rfl
    have c_q1_2 := H0.out.cell (b := q1) (cs := #[.int .u64 a, .int .u64 b, .int .u64 c]) (t := 41) (by simp) 2 rfl
    go_wp2_with fail
    refine (up17 _ (G.out.below H0.out.2)).mono ?_
    rintro e' w1 ⟨rfl, hb1n⟩
    have H1 := Lib.hid (H0.out.next hb1n)
    clear c_q2_0 c_q2_1 c_q2_2 c_q1_0 c_q1_1 c_q1_2
    clear hb1n H0
    have c_q2_0 := H1.out.cell (b := q2) (cs := #[.int .u64 a', .int .u64 b', .int .u64 c']) (t := 41) (by simp) 0 rfl
    have c_q2_1 := H1.out.cell (b := q2) (cs := #[.int .u64 a', .int .u64 b', .int .u64 c']) (t := 41) (by simp) 1 rfl
    have c_q2_2 := H1.out.cell (b := q2) (cs := #[.int .u64 a', .int .u64 b', .int .u64 c']) (t := 41) (by simp) 2 rfl
    have c_q1_0 := H1.out.cell (b := q1) (cs := #[.int .u64 a, .int .u64 b, .int .u64 c]) (t := 41) (by simp) 0 rfl
    have c_q1_1 := H1.out.cell (b := q1) (cs := #[.int .u64 a, .int .u64 b, .int .u64 c]) (t := 41) (by simp) 1 rfl
    have c_q1_2 := H1.out.cell (b := q1) (cs := #[.int .u64 a, .int .u64 b, .int .u64 c]) (t := 41) (by simp) 2 rfl
    go_wp2_with fail
    refine (cA.out _).mono ?_
    rintro e' w2 ⟨rfl, hb2n⟩
    have H2 := Lib.hid (H1.out.next hb2n)
    clear c_q2_0 c_q2_1 c_q2_2 c_q1_0 c_q1_1 c_q1_2
    clear hb2n H1
    have c_q2_0 := H2.out.cell (b := q2) (cs := #[.int .u64 a', .int .u64 b', .int .u64 c']) (t := 41) (by simp) 0 rfl
    have c_q2_1 := H2.out.cell (b := q2) (cs := #[.int .u64 a', .int .u64 b', .int .u64 c']) (t := 41) (by simp) 1 rfl
    have c_q2_2 := H2.out.cell (b := q2) (cs := #[.int .u64 a', .int .u64 b', .int .u64 c']) (t := 41) (by simp) 2 rfl
    have c_q1_0 := H2.out.cell (b := q1) (cs := #[.int .u64 a, .int .u64 b, .int .u64 c]) (t := 41) (by simp) 0 rfl
    have c_q1_1 := H2.out.cell (b := q1) (cs := #[.int .u64 a, .int .u64 b, .int .u64 c]) (t := 41) (by simp) 1 rfl
    have c_q1_2 := H2.out.cell (b := q1) (cs := #[.int .u64 a, .int .u64 b, .int .u64 c]) (t := 41) (by simp) 2 rfl
    go_wp2_with fail
    refine (cB.out _).mono ?_
    rintro e' w3 ⟨rfl, hb3n⟩
    have H3 := Lib.hid (H2.out.next hb3n)
    clear c_q2_0 c_q2_1 c_q2_2 c_q1_0 c_q1_1 c_q1_2
    clear hb3n H2
    have c_q2_0 := H3.out.cell (b := q2) (cs := #[.int .u64 a', .int .u64 b', .int .u64 c']) (t := 41) (by simp) 0 rfl
    have c_q2_1 := H3.out.cell (b := q2) (cs := #[.int .u64 a', .int .u64 b', .int .u64 c']) (t := 41) (by simp) 1 rfl
    have c_q2_2 := H3.out.cell (b := q2) (cs := #[.int .u64 a', .int .u64 b', .int .u64 c']) (t := 41) (by simp) 2 rfl
    have c_q1_0 := H3.out.cell (b := q1) (cs := #[.int .u64 a, .int .u64 b, .int .u64 c]) (t := 41) (by simp) 0 rfl
    have c_q1_1 := H3.out.cell (b := q1) (cs := #[.int .u64 a, .int .u64 b, .int .u64 c]) (t := 41) (by simp) 1 rfl
    have c_q1_2 := H3.out.cell (b := q1) (cs := #[.int .u64 a, .int .u64 b, .int .u64 c]) (t := 41) (by simp) 2 rfl
    go_wp2_with fail
    go_ret
    exact ⟨by simp, H3.out.2⟩
  · have cB := Lib.hid (fun w => nMarkN a' b' c' h2 w)
    clear h2
    go_enter Tryd.func10, Tryd.ntmps10
    go_upto_region 1 with fail
    have HB := Lib.hid (((HR.refl w).new #[.int .u64 a, .int .u64 b, .int .u64 c] 41).new #[.int .u64 a', .int .u64 b', .int .u64 c'] 41)
    simp only [World.size_alloc] at HB
    generalize (w.alloc (.cells #[.int .u64 a, .int .u64 b, .int .u64 c] 41)).alloc (.cells #[.int .u64 a', .int .u64 b', .int .u64 c'] 41) = w0 at HB ⊢
    obtain ⟨q2, hq2⟩ : ∃ z, w.heap.size + 1 = z := ⟨_, rfl⟩
    obtain ⟨q1, hq1⟩ : ∃ z, w.heap.size = z := ⟨_, rfl⟩
    have H0 : Hid (HR w w0 [(q2, #[.int .u64 a', .int .u64 b', .int .u64 c'], 41), (q1, #[.int .u64 a, .int .u64 b, .int .u64 c], 41)]) := Lib.hid (by rw [← hq2, ← hq1]; exact HB.out)
    rw [hq2, hq1]
    replace hq1 := Lib.hid hq1
    replace hq2 := Lib.hid hq2
    clear HB
    have c_q2_0 := H0.out.cell (b := q2) (cs := #[.int .u64 a', .int .u64 b', .int .u64 c']) (t := 41) (by simp) 0 rfl
    have c_q2_1 := H0.out.cell (b := q2) (cs := #[.int .u64 a', .int .u64 b', .int .u64 c']) (t := 41) (by simp) 1 rfl
    have c_q2_2 := H0.out.cell (b := q2) (cs := #[.int .u64 a', .int .u64 b', .int .u64 c']) (t := 41) (by simp) 2 rfl
    have c_q1_0 := H0.out.cell (b := q1) (cs := #[.int .u64 a, .int .u64 b, .int .u64 c]) (t := 41) (by simp) 0 rfl
    have c_q1_1 := H0.out.cell (b := q1) (cs := #[.int .u64 a, .int .u64 b, .int .u64 c]) (t := 41) (by simp) 1 rfl
    have c_q1_2 := H0.out.cell (b := q1) (cs := #[.int .u64 a, .int .u64 b, .int .u64 c]) (t := 41) (by simp) 2 rfl
    go_wp2_with fail
    refine (up17 _ (G.out.below H0.out.2)).mono ?_
    rintro e' w1 ⟨rfl, hb1n⟩
    have H1 := Lib.hid (H0.out.next hb1n)
    clear c_q2_0 c_q2_1 c_q2_2 c_q1_0 c_q1_1 c_q1_2
    clear hb1n H0
    have c_q2_0 := H1.out.cell (b := q2) (cs := #[.int .u64 a', .int .u64 b', .int .u64 c']) (t := 41) (by simp) 0 rfl
    have c_q2_1 := H1.out.cell (b := q2) (cs := #[.int .u64 a', .int .u64 b', .int .u64 c']) (t := 41) (by simp) 1 rfl
    have c_q2_2 := H1.out.cell (b := q2) (cs := #[.int .u64 a', .int .u64 b', .int .u64 c']) (t := 41) (by simp) 2 rfl
    have c_q1_0 := H1.out.cell (b := q1) (cs := #[.int .u64 a, .int .u64 b, .int .u64 c]) (t := 41) (by simp) 0 rfl
    have c_q1_1 := H1.out.cell (b := q1) (cs := #[.int .u64 a, .int .u64 b, .int .u64 c]) (t := 41) (by simp) 1 rfl
    have c_q1_2 := H1.out.cell (b := q1) (cs := #[.int .u64 a, .int .u64 b, .int .u64 c]) (t := 41) (by simp) 2 rfl
    go_wp2_with fail
    refine (cA.out _).mono ?_
    rintro e' w2 ⟨rfl, hb2n⟩
    have H2 := Lib.hid (H1.out.next hb2n)
    clear c_q2_0 c_q2_1 c_q2_2 c_q1_0 c_q1_1 c_q1_2
    clear hb2n H1
    have c_q2_0 := H2.out.cell (b := q2) (cs := #[.int .u64 a', .int .u64 b', .int .u64 c']) (t := 41) (by simp) 0 rfl
    have c_q2_1 := H2.out.cell (b := q2) (cs := #[.int .u64 a', .int .u64 b', .int .u64 c']) (t := 41) (by simp) 1 rfl
    have c_q2_2 := H2.out.cell (b := q2) (cs := #[.int .u64 a', .int .u64 b', .int .u64 c']) (t := 41) (by simp) 2 rfl
    have c_q1_0 := H2.out.cell (b := q1) (cs := #[.int .u64 a, .int .u64 b, .int .u64 c]) (t := 41) (by simp) 0 rfl
    have c_q1_1 := H2.out.cell (b := q1) (cs := #[.int .u64 a, .int .u64 b, .int .u64 c]) (t := 41) (by simp) 1 rfl
    have c_q1_2 := H2.out.cell (b := q1) (cs := #[.int .u64 a, .int .u64 b, .int .u64 c]) (t := 41) (by simp) 2 rfl
    go_wp2_with fail
    refine (cB.out _).mono ?_
    rintro e' w3 ⟨rfl, hb3n⟩
    have H3 := Lib.hid (H2.out.next hb3n)
    clear c_q2_0 c_q2_1 c_q2_2 c_q1_0 c_q1_1 c_q1_2
    clear hb3n H2
    have c_q2_0 := H3.out.cell (b := q2) (cs := #[.int .u64 a', .int .u64 b', .int .u64 c']) (t := 41) (by simp) 0 rfl
    have c_q2_1 := H3.out.cell (b := q2) (cs := #[.int .u64 a', .int .u64 b', .int .u64 c']) (t := 41) (by simp) 1 rfl
    have c_q2_2 := H3.out.cell (b := q2) (cs := #[.int .u64 a', .int .u64 b', .int .u64 c']) (t := 41) (by simp) 2 rfl
    have c_q1_0 := H3.out.cell (b := q1) (cs := #[.int .u64 a, .int .u64 b, .int .u64 c]) (t := 41) (by simp) 0 rfl
    have c_q1_1 := H3.out.cell (b := q1) (cs := #[.int .u64 a, .int .u64 b, .int .u64 c]) (t := 41) (by simp) 1 rfl
    have c_q1_2 := H3.out.cell (b := q1) (cs := #[.int .u64 a, .int .u64 b, .int .u64 c]) (t := 41) (by simp) 2 rfl
    go_wp2_with fail
    go_ret
    exact ⟨by simp, H3.out.2⟩

set_option maxRecDepth 8000 in
set_option maxHeartbeats 2000000 in
theorem walkApartM (w : World) (G : Hid (RowsAt w)) (a b c a' b' c' : Int) (a0 : 0 ≤ a) (a1 : a ≤ 18446744073709551615) (b0 : 0 ≤ b) (b1 : b ≤ 18446744073709551615) (c0 : 0 ≤ c) (c1 : c ≤ 18446744073709551615) (a0' : 0 ≤ a') (a1' : a' ≤ 18446744073709551615) (b0' : 0 ≤ b') (b1' : b' ≤ 18446744073709551615) (c0' : 0 ≤ c') (c1' : c' ≤ 18446744073709551615) (h : mayI a b c) (h2 : ¬ mayI a' b' c') :
    Calls Tryd.prog 10 #[ntV a b c, ntV a' b' c'] w fun e w' => e = .returned (.bool true) ∧ Below w.heap.size w w' := by
  have cA := Lib.hid (fun w => nMarkY a b c a0 b0 c0 h w)
  have cB := Lib.hid (fun w => nMarkN a' b' c' h2 w)
  clear h h2
  go_enter Tryd.func10, Tryd.ntmps10
  go_upto_region 1 with fail
  have HB := Lib.hid (((HR.refl w).new #[.int .u64 a, .int .u64 b, .int .u64 c] 41).new #[.int .u64 a', .int .u64 b', .int .u64 c'] 41)
  simp only [World.size_alloc] at HB
  generalize (w.alloc (.cells #[.int .u64 a, .int .u64 b, .int .u64 c] 41)).alloc (.cells #[.int .u64 a', .int .u64 b', .int .u64 c'] 41) = w0 at HB ⊢
  obtain ⟨q2, hq2⟩ : ∃ z, w.heap.size + 1 = z := ⟨_, rfl⟩
  obtain ⟨q1, hq1⟩ : ∃ z, w.heap.size = z := ⟨_, rfl⟩
  have H0 : Hid (HR w w0 [(q2, #[.int .u64 a', .int .u64 b', .int .u64 c'], 41), (q1, #[.int .u64 a, .int .u64 b, .int .u64 c], 41)]) := Lib.hid (by rw [← hq2, ← hq1]; exact HB.out)
  rw [hq2, hq1]
  replace hq1 := Lib.hid hq1
  replace hq2 := Lib.hid hq2
  clear HB
  have c_q2_0 := H0.out.cell (b := q2) (cs := #[.int .u64 a', .int .u64 b', .int .u64 c']) (t := 41) (by simp) 0 rfl
  have c_q2_1 := H0.out.cell (b := q2) (cs := #[.int .u64 a', .int .u64 b', .int .u64 c']) (t := 41) (by simp) 1 rfl
  have c_q2_2 := H0.out.cell (b := q2) (cs := #[.int .u64 a', .int .u64 b', .int .u64 c']) (t := 41) (by simp) 2 rfl
  have c_q1_0 := H0.out.cell (b := q1) (cs := #[.int .u64 a, .int .u64 b, .int .u64 c]) (t := 41) (by simp) 0 rfl
  have c_q1_1 := H0.out.cell (b := q1) (cs := #[.int .u64 a, .int .u64 b, .int .u64 c]) (t := 41) (by simp) 1 rfl
  have c_q1_2 := H0.out.cell (b := q1) (cs := #[.int .u64 a, .int .u64 b, .int .u64 c]) (t := 41) (by simp) 2 rfl
  go_wp2_with fail
  refine (up17 _ (G.out.below H0.out.2)).mono ?_
  rintro e' w1 ⟨rfl, hb1n⟩
  have H1 := Lib.hid (H0.out.next hb1n)
  clear c_q2_0 c_q2_1 c_q2_2 c_q1_0 c_q1_1 c_q1_2
  clear hb1n H0
  have c_q2_0 := H1.out.cell (b := q2) (cs := #[.int .u64 a', .int .u64 b', .int .u64 c']) (t := 41) (by simp) 0 rfl
  have c_q2_1 := H1.out.cell (b := q2) (cs := #[.int .u64 a', .int .u64 b', .int .u64 c']) (t := 41) (by simp) 1 rfl
  have c_q2_2 := H1.out.cell (b := q2) (cs := #[.int .u64 a', .int .u64 b', .int .u64 c']) (t := 41) (by simp) 2 rfl
  have c_q1_0 := H1.out.cell (b := q1) (cs := #[.int .u64 a, .int .u64 b, .int .u64 c]) (t := 41) (by simp) 0 rfl
  have c_q1_1 := H1.out.cell (b := q1) (cs := #[.int .u64 a, .int .u64 b, .int .u64 c]) (t := 41) (by simp) 1 rfl
  have c_q1_2 := H1.out.cell (b := q1) (cs := #[.int .u64 a, .int .u64 b, .int .u64 c]) (t := 41) (by simp) 2 rfl
  go_wp2_with fail
  refine (cA.out _).mono ?_
  rintro e' w2 ⟨rfl, hb2n⟩
  have H2 := Lib.hid (H1.out.next hb2n)
  clear c_q2_0 c_q2_1 c_q2_2 c_q1_0 c_q1_1 c_q1_2
  clear hb2n H1
  have c_q2_0 := H2.out.cell (b := q2) (cs := #[.int .u64 a', .int .u64 b', .int .u64 c']) (t := 41) (by simp) 0 rfl
  have c_q2_1 := H2.out.cell (b := q2) (cs := #[.int .u64 a', .int .u64 b', .int .u64 c']) (t := 41) (by simp) 1 rfl
  have c_q2_2 := H2.out.cell (b := q2) (cs := #[.int .u64 a', .int .u64 b', .int .u64 c']) (t := 41) (by simp) 2 rfl
  have c_q1_0 := H2.out.cell (b := q1) (cs := #[.int .u64 a, .int .u64 b, .int .u64 c]) (t := 41) (by simp) 0 rfl
  have c_q1_1 := H2.out.cell (b := q1) (cs := #[.int .u64 a, .int .u64 b, .int .u64 c]) (t := 41) (by simp) 1 rfl
  have c_q1_2 := H2.out.cell (b := q1) (cs := #[.int .u64 a, .int .u64 b, .int .u64 c]) (t := 41) (by simp) 2 rfl
  go_wp2_with fail
  refine (cB.out _).mono ?_
  rintro e' w3 ⟨rfl, hb3n⟩
  have H3 := Lib.hid (H2.out.next hb3n)
  clear c_q2_0 c_q2_1 c_q2_2 c_q1_0 c_q1_1 c_q1_2
  clear hb3n H2
  have c_q2_0 := H3.out.cell (b := q2) (cs := #[.int .u64 a', .int .u64 b', .int .u64 c']) (t := 41) (by simp) 0 rfl
  have c_q2_1 := H3.out.cell (b := q2) (cs := #[.int .u64 a', .int .u64 b', .int .u64 c']) (t := 41) (by simp) 1 rfl
  have c_q2_2 := H3.out.cell (b := q2) (cs := #[.int .u64 a', .int .u64 b', .int .u64 c']) (t := 41) (by simp) 2 rfl
  have c_q1_0 := H3.out.cell (b := q1) (cs := #[.int .u64 a, .int .u64 b, .int .u64 c]) (t := 41) (by simp) 0 rfl
  have c_q1_1 := H3.out.cell (b := q1) (cs := #[.int .u64 a, .int .u64 b, .int .u64 c]) (t := 41) (by simp) 1 rfl
  have c_q1_2 := H3.out.cell (b := q1) (cs := #[.int .u64 a, .int .u64 b, .int .u64 c]) (t := 41) (by simp) 2 rfl
  go_wp2_with fail
  go_ret
  exact ⟨by simp, H3.out.2⟩
set_option maxRecDepth 8000 in
set_option maxHeartbeats 2000000 in
theorem walkApartE (w : World) (G : Hid (RowsAt w)) (a b c : Int) (a0 : 0 ≤ a) (b0 : 0 ≤ b) (c0 : 0 ≤ c) (h : mayI a b c) :
    Calls Tryd.prog 10 #[ntV a b c, ntV a b c] w fun e w' => e = .returned (.bool true) ∧ Below w.heap.size w w' := by
  have cA := Lib.hid (fun w => nMarkY a b c a0 b0 c0 h w)
  clear h
  go_enter Tryd.func10, Tryd.ntmps10
  go_upto_region 1 with fail
  have HB := Lib.hid (((HR.refl w).new #[.int .u64 a, .int .u64 b, .int .u64 c] 41).new #[.int .u64 a, .int .u64 b, .int .u64 c] 41)
  simp only [World.size_alloc] at HB
  generalize (w.alloc (.cells #[.int .u64 a, .int .u64 b, .int .u64 c] 41)).alloc (.cells #[.int .u64 a, .int .u64 b, .int .u64 c] 41) = w0 at HB ⊢
  obtain ⟨q2, hq2⟩ : ∃ z, w.heap.size + 1 = z := ⟨_, rfl⟩
  obtain ⟨q1, hq1⟩ : ∃ z, w.heap.size = z := ⟨_, rfl⟩
  have H0 : Hid (HR w w0 [(q2, #[.int .u64 a, .int .u64 b, .int .u64 c], 41), (q1, #[.int .u64 a, .int .u64 b, .int .u64 c], 41)]) := Lib.hid (by rw [← hq2, ← hq1]; exact HB.out)
  rw [hq2, hq1]
  replace hq1 := Lib.hid hq1
  replace hq2 := Lib.hid hq2
  clear HB
  have c_q2_0 := H0.out.cell (b := q2) (cs := #[.int .u64 a, .int .u64 b, .int .u64 c]) (t := 41) (by simp) 0 rfl
  have c_q2_1 := H0.out.cell (b := q2) (cs := #[.int .u64 a, .int .u64 b, .int .u64 c]) (t := 41) (by simp) 1 rfl
  have c_q2_2 := H0.out.cell (b := q2) (cs := #[.int .u64 a, .int .u64 b, .int .u64 c]) (t := 41) (by simp) 2 rfl
  have c_q1_0 := H0.out.cell (b := q1) (cs := #[.int .u64 a, .int .u64 b, .int .u64 c]) (t := 41) (by simp) 0 rfl
  have c_q1_1 := H0.out.cell (b := q1) (cs := #[.int .u64 a, .int .u64 b, .int .u64 c]) (t := 41) (by simp) 1 rfl
  have c_q1_2 := H0.out.cell (b := q1) (cs := #[.int .u64 a, .int .u64 b, .int .u64 c]) (t := 41) (by simp) 2 rfl
  go_wp2_with fail
  refine (up17 _ (G.out.below H0.out.2)).mono ?_
  rintro e' w1 ⟨rfl, hb1n⟩
  have H1 := Lib.hid (H0.out.next hb1n)
  clear c_q2_0 c_q2_1 c_q2_2 c_q1_0 c_q1_1 c_q1_2
  clear hb1n H0
  have c_q2_0 := H1.out.cell (b := q2) (cs := #[.int .u64 a, .int .u64 b, .int .u64 c]) (t := 41) (by simp) 0 rfl
  have c_q2_1 := H1.out.cell (b := q2) (cs := #[.int .u64 a, .int .u64 b, .int .u64 c]) (t := 41) (by simp) 1 rfl
  have c_q2_2 := H1.out.cell (b := q2) (cs := #[.int .u64 a, .int .u64 b, .int .u64 c]) (t := 41) (by simp) 2 rfl
  have c_q1_0 := H1.out.cell (b := q1) (cs := #[.int .u64 a, .int .u64 b, .int .u64 c]) (t := 41) (by simp) 0 rfl
  have c_q1_1 := H1.out.cell (b := q1) (cs := #[.int .u64 a, .int .u64 b, .int .u64 c]) (t := 41) (by simp) 1 rfl
  have c_q1_2 := H1.out.cell (b := q1) (cs := #[.int .u64 a, .int .u64 b, .int .u64 c]) (t := 41) (by simp) 2 rfl
  go_wp2_with fail
  refine (cA.out _).mono ?_
  rintro e' w2 ⟨rfl, hb2n⟩
  have H2 := Lib.hid (H1.out.next hb2n)
  clear c_q2_0 c_q2_1 c_q2_2 c_q1_0 c_q1_1 c_q1_2
  clear hb2n H1
  have c_q2_0 := H2.out.cell (b := q2) (cs := #[.int .u64 a, .int .u64 b, .int .u64 c]) (t := 41) (by simp) 0 rfl
  have c_q2_1 := H2.out.cell (b := q2) (cs := #[.int .u64 a, .int .u64 b, .int .u64 c]) (t := 41) (by simp) 1 rfl
  have c_q2_2 := H2.out.cell (b := q2) (cs := #[.int .u64 a, .int .u64 b, .int .u64 c]) (t := 41) (by simp) 2 rfl
  have c_q1_0 := H2.out.cell (b := q1) (cs := #[.int .u64 a, .int .u64 b, .int .u64 c]) (t := 41) (by simp) 0 rfl
  have c_q1_1 := H2.out.cell (b := q1) (cs := #[.int .u64 a, .int .u64 b, .int .u64 c]) (t := 41) (by simp) 1 rfl
  have c_q1_2 := H2.out.cell (b := q1) (cs := #[.int .u64 a, .int .u64 b, .int .u64 c]) (t := 41) (by simp) 2 rfl
  go_wp2_with fail
  refine (cA.out _).mono ?_
  rintro e' w3 ⟨rfl, hb3n⟩
  have H3 := Lib.hid (H2.out.next hb3n)
  clear c_q2_0 c_q2_1 c_q2_2 c_q1_0 c_q1_1 c_q1_2
  clear hb3n H2
  have c_q2_0 := H3.out.cell (b := q2) (cs := #[.int .u64 a, .int .u64 b, .int .u64 c]) (t := 41) (by simp) 0 rfl
  have c_q2_1 := H3.out.cell (b := q2) (cs := #[.int .u64 a, .int .u64 b, .int .u64 c]) (t := 41) (by simp) 1 rfl
  have c_q2_2 := H3.out.cell (b := q2) (cs := #[.int .u64 a, .int .u64 b, .int .u64 c]) (t := 41) (by simp) 2 rfl
  have c_q1_0 := H3.out.cell (b := q1) (cs := #[.int .u64 a, .int .u64 b, .int .u64 c]) (t := 41) (by simp) 0 rfl
  have c_q1_1 := H3.out.cell (b := q1) (cs := #[.int .u64 a, .int .u64 b, .int .u64 c]) (t := 41) (by simp) 1 rfl
  have c_q1_2 := H3.out.cell (b := q1) (cs := #[.int .u64 a, .int .u64 b, .int .u64 c]) (t := 41) (by simp) 2 rfl
  go_wp2_with fail
  go_ret
  exact ⟨by simp, H3.out.2⟩
theorem neqV (a b c a' b' c' : Int) (hne : ¬ (a = a' ∧ b = b' ∧ c = c')) (W : World) : (binOp .eql 41 (ntV a b c) (ntV a' b' c')).run Tryd.prog W = .ok (.bool false) W := by
  go_simp
  exact fun h1 h2 h3 => hne ⟨h1, h2, h3⟩
set_option maxRecDepth 8000 in
set_option maxHeartbeats 2000000 in
theorem walkApartX (w : World) (G : Hid (RowsAt w)) (a b c a' b' c' : Int) (a0 : 0 ≤ a) (a1 : a ≤ 18446744073709551615) (b0 : 0 ≤ b) (b1 : b ≤ 18446744073709551615) (c0 : 0 ≤ c) (c1 : c ≤ 18446744073709551615) (a0' : 0 ≤ a') (a1' : a' ≤ 18446744073709551615) (b0' : 0 ≤ b') (b1' : b' ≤ 18446744073709551615) (c0' : 0 ≤ c') (c1' : c' ≤ 18446744073709551615) (h : mayI a b c) (h2 : mayI a' b' c') (hx : Obol.manyN [a.toNat, b.toNat, c.toNat] ≠ Obol.manyN [a'.toNat, b'.toNat, c'.toNat]) (hq : ∀ W : World, (binOp .eql 41 (ntV a b c) (ntV a' b' c')).run Tryd.prog W = .ok (.bool false) W) :
    Calls Tryd.prog 10 #[ntV a b c, ntV a' b' c'] w fun e w' => e = .returned (.bool true) ∧ Below w.heap.size w w' := by
  have cA := Lib.hid (fun w => nMarkY a b c a0 b0 c0 h w)
  have cB := Lib.hid (fun w => nMarkY a' b' c' a0' b0' c0' h2 w)
  obtain ⟨x, ex⟩ : ∃ x : Int, ((Obol.manyN [a.toNat, b.toNat, c.toNat] : Nat) : Int) = x := ⟨_, rfl⟩
  obtain ⟨y, ey⟩ : ∃ y : Int, ((Obol.manyN [a'.toNat, b'.toNat, c'.toNat] : Nat) : Int) = y := ⟨_, rfl⟩
  have hxy : ¬ x = y := by omega
  rw [ex] at cA
  rw [ey] at cB
  clear h h2 hx ex ey
  go_enter Tryd.func10, Tryd.ntmps10
  go_upto_region 1 with fail
  have HB := Lib.hid (((HR.refl w).new #[.int .u64 a, .int .u64 b, .int .u64 c] 41).new #[.int .u64 a', .int .u64 b', .int .u64 c'] 41)
  simp only [World.size_alloc] at HB
  generalize (w.alloc (.cells #[.int .u64 a, .int .u64 b, .int .u64 c] 41)).alloc (.cells #[.int .u64 a', .int .u64 b', .int .u64 c'] 41) = w0 at HB ⊢
  obtain ⟨q2, hq2⟩ : ∃ z, w.heap.size + 1 = z := ⟨_, rfl⟩
  obtain ⟨q1, hq1⟩ : ∃ z, w.heap.size = z := ⟨_, rfl⟩
  have H0 : Hid (HR w w0 [(q2, #[.int .u64 a', .int .u64 b', .int .u64 c'], 41), (q1, #[.int .u64 a, .int .u64 b, .int .u64 c], 41)]) := Lib.hid (by rw [← hq2, ← hq1]; exact HB.out)
  rw [hq2, hq1]
  replace hq1 := Lib.hid hq1
  replace hq2 := Lib.hid hq2
  clear HB
  have c_q2_0 := H0.out.cell (b := q2) (cs := #[.int .u64 a', .int .u64 b', .int .u64 c']) (t := 41) (by simp) 0 rfl
  have c_q2_1 := H0.out.cell (b := q2) (cs := #[.int .u64 a', .int .u64 b', .int .u64 c']) (t := 41) (by simp) 1 rfl
  have c_q2_2 := H0.out.cell (b := q2) (cs := #[.int .u64 a', .int .u64 b', .int .u64 c']) (t := 41) (by simp) 2 rfl
  have c_q1_0 := H0.out.cell (b := q1) (cs := #[.int .u64 a, .int .u64 b, .int .u64 c]) (t := 41) (by simp) 0 rfl
  have c_q1_1 := H0.out.cell (b := q1) (cs := #[.int .u64 a, .int .u64 b, .int .u64 c]) (t := 41) (by simp) 1 rfl
  have c_q1_2 := H0.out.cell (b := q1) (cs := #[.int .u64 a, .int .u64 b, .int .u64 c]) (t := 41) (by simp) 2 rfl
  go_wp2_with fail
  refine (up17 _ (G.out.below H0.out.2)).mono ?_
  rintro e' w1 ⟨rfl, hb1n⟩
  have H1 := Lib.hid (H0.out.next hb1n)
  clear c_q2_0 c_q2_1 c_q2_2 c_q1_0 c_q1_1 c_q1_2
  clear hb1n H0
  have c_q2_0 := H1.out.cell (b := q2) (cs := #[.int .u64 a', .int .u64 b', .int .u64 c']) (t := 41) (by simp) 0 rfl
  have c_q2_1 := H1.out.cell (b := q2) (cs := #[.int .u64 a', .int .u64 b', .int .u64 c']) (t := 41) (by simp) 1 rfl
  have c_q2_2 := H1.out.cell (b := q2) (cs := #[.int .u64 a', .int .u64 b', .int .u64 c']) (t := 41) (by simp) 2 rfl
  have c_q1_0 := H1.out.cell (b := q1) (cs := #[.int .u64 a, .int .u64 b, .int .u64 c]) (t := 41) (by simp) 0 rfl
  have c_q1_1 := H1.out.cell (b := q1) (cs := #[.int .u64 a, .int .u64 b, .int .u64 c]) (t := 41) (by simp) 1 rfl
  have c_q1_2 := H1.out.cell (b := q1) (cs := #[.int .u64 a, .int .u64 b, .int .u64 c]) (t := 41) (by simp) 2 rfl
  go_wp2_with fail
  refine (cA.out _).mono ?_
  rintro e' w2 ⟨rfl, hb2n⟩
  have H2 := Lib.hid (H1.out.next hb2n)
  clear c_q2_0 c_q2_1 c_q2_2 c_q1_0 c_q1_1 c_q1_2
  clear hb2n H1
  have c_q2_0 := H2.out.cell (b := q2) (cs := #[.int .u64 a', .int .u64 b', .int .u64 c']) (t := 41) (by simp) 0 rfl
  have c_q2_1 := H2.out.cell (b := q2) (cs := #[.int .u64 a', .int .u64 b', .int .u64 c']) (t := 41) (by simp) 1 rfl
  have c_q2_2 := H2.out.cell (b := q2) (cs := #[.int .u64 a', .int .u64 b', .int .u64 c']) (t := 41) (by simp) 2 rfl
  have c_q1_0 := H2.out.cell (b := q1) (cs := #[.int .u64 a, .int .u64 b, .int .u64 c]) (t := 41) (by simp) 0 rfl
  have c_q1_1 := H2.out.cell (b := q1) (cs := #[.int .u64 a, .int .u64 b, .int .u64 c]) (t := 41) (by simp) 1 rfl
  have c_q1_2 := H2.out.cell (b := q1) (cs := #[.int .u64 a, .int .u64 b, .int .u64 c]) (t := 41) (by simp) 2 rfl
  go_wp2_with fail
  refine (cB.out _).mono ?_
  rintro e' w3 ⟨rfl, hb3n⟩
  have H3 := Lib.hid (H2.out.next hb3n)
  clear c_q2_0 c_q2_1 c_q2_2 c_q1_0 c_q1_1 c_q1_2
  clear hb3n H2
  have c_q2_0 := H3.out.cell (b := q2) (cs := #[.int .u64 a', .int .u64 b', .int .u64 c']) (t := 41) (by simp) 0 rfl
  have c_q2_1 := H3.out.cell (b := q2) (cs := #[.int .u64 a', .int .u64 b', .int .u64 c']) (t := 41) (by simp) 1 rfl
  have c_q2_2 := H3.out.cell (b := q2) (cs := #[.int .u64 a', .int .u64 b', .int .u64 c']) (t := 41) (by simp) 2 rfl
  have c_q1_0 := H3.out.cell (b := q1) (cs := #[.int .u64 a, .int .u64 b, .int .u64 c]) (t := 41) (by simp) 0 rfl
  have c_q1_1 := H3.out.cell (b := q1) (cs := #[.int .u64 a, .int .u64 b, .int .u64 c]) (t := 41) (by simp) 1 rfl
  have c_q1_2 := H3.out.cell (b := q1) (cs := #[.int .u64 a, .int .u64 b, .int .u64 c]) (t := 41) (by simp) 2 rfl
  go_wp2_with fail
  go_ret
  exact ⟨by simp, H3.out.2⟩
theorem many0 (x y z : Nat) : Obol.manyS [x, y, z] 0 = 3 := by show 3 % Obol.R = 3; decide +kernel
theorem apart_all (L M : List Nat) (h : Obol.manyS L 3 = Obol.manyS M 3) (hall : ∀ i, i < 3 → Obol.manyS L (i + 1) = Obol.manyS M (i + 1) → Obol.manyS L i = Obol.manyS M i ∧ L.getD i 0 = M.getD i 0) : L.getD 0 0 = M.getD 0 0 ∧ L.getD 1 0 = M.getD 1 0 ∧ L.getD 2 0 = M.getD 2 0 :=
  ⟨(hall 0 (by decide) (hall 1 (by decide) (hall 2 (by decide) h).1).1).2, (hall 1 (by decide) (hall 2 (by decide) h).1).2, (hall 2 (by decide) h).2⟩
set_option maxRecDepth 8000 in
set_option maxHeartbeats 4000000 in
theorem walkApartL (w : World) (G : Hid (RowsAt w)) (a b c a' b' c' : Int) (a0 : 0 ≤ a) (a1 : a ≤ 18446744073709551615) (b0 : 0 ≤ b) (b1 : b ≤ 18446744073709551615) (c0 : 0 ≤ c) (c1 : c ≤ 18446744073709551615) (a0' : 0 ≤ a') (a1' : a' ≤ 18446744073709551615) (b0' : 0 ≤ b') (b1' : b' ≤ 18446744073709551615) (c0' : 0 ≤ c') (c1' : c' ≤ 18446744073709551615) (h : mayI a b c) (h2 : mayI a' b' c') (hx : Obol.manyN [a.toNat, b.toNat, c.toNat] = Obol.manyN [a'.toNat, b'.toNat, c'.toNat]) (hne : ¬ (a = a' ∧ b = b' ∧ c = c')) (hq : ∀ W : World, (binOp .eql 41 (ntV a b c) (ntV a' b' c')).run Tryd.prog W = .ok (.bool false) W) :
    Calls Tryd.prog 10 #[ntV a b c, ntV a' b' c'] w fun e w' => e = .returned (.bool true) ∧ Below w.heap.size w w' := by
  have cA := Lib.hid (fun w => nMarkY a b c a0 b0 c0 h w)
  have cB := Lib.hid (fun w => nMarkY a' b' c' a0' b0' c0' h2 w)
  have hfin : Hid (¬ ∀ i, i < 3 → Obol.manyS [a.toNat, b.toNat, c.toNat] (i + 1) = Obol.manyS [a'.toNat, b'.toNat, c'.toNat] (i + 1) → Obol.manyS [a.toNat, b.toNat, c.toNat] i = Obol.manyS [a'.toNat, b'.toNat, c'.toNat] i ∧ [a.toNat, b.toNat, c.toNat].getD i 0 = [a'.toNat, b'.toNat, c'.toNat].getD i 0) := Lib.hid (fun hall => by
    obtain ⟨e0, e1, e2⟩ := apart_all _ _ hx hall
    simp at e0 e1 e2
    exact hne ⟨by omega, by omega, by omega⟩)
  rw [← hx] at cB
  obtain ⟨x, ex⟩ : ∃ x : Int, ((Obol.manyN [a.toNat, b.toNat, c.toNat] : Nat) : Int) = x := ⟨_, rfl⟩
  rw [ex] at cA cB
  clear h h2 hx ex hne
  go_enter Tryd.func10, Tryd.ntmps10
  go_upto_region 1 with fail
  have HB := Lib.hid (((HR.refl w).new #[.int .u64 a, .int .u64 b, .int .u64 c] 41).new #[.int .u64 a', .int .u64 b', .int .u64 c'] 41)
  simp only [World.size_alloc] at HB
  generalize (w.alloc (.cells #[.int .u64 a, .int .u64 b, .int .u64 c] 41)).alloc (.cells #[.int .u64 a', .int .u64 b', .int .u64 c'] 41) = w0 at HB ⊢
  obtain ⟨q2, hq2⟩ : ∃ z, w.heap.size + 1 = z := ⟨_, rfl⟩
  obtain ⟨q1, hq1⟩ : ∃ z, w.heap.size = z := ⟨_, rfl⟩
  have H0 : Hid (HR w w0 [(q2, #[.int .u64 a', .int .u64 b', .int .u64 c'], 41), (q1, #[.int .u64 a, .int .u64 b, .int .u64 c], 41)]) := Lib.hid (by rw [← hq2, ← hq1]; exact HB.out)
  rw [hq2, hq1]
  replace hq1 := Lib.hid hq1
  replace hq2 := Lib.hid hq2
  clear HB
  have c_q2_0 := H0.out.cell (b := q2) (cs := #[.int .u64 a', .int .u64 b', .int .u64 c']) (t := 41) (by simp) 0 rfl
  have c_q2_1 := H0.out.cell (b := q2) (cs := #[.int .u64 a', .int .u64 b', .int .u64 c']) (t := 41) (by simp) 1 rfl
  have c_q2_2 := H0.out.cell (b := q2) (cs := #[.int .u64 a', .int .u64 b', .int .u64 c']) (t := 41) (by simp) 2 rfl
  have c_q1_0 := H0.out.cell (b := q1) (cs := #[.int .u64 a, .int .u64 b, .int .u64 c]) (t := 41) (by simp) 0 rfl
  have c_q1_1 := H0.out.cell (b := q1) (cs := #[.int .u64 a, .int .u64 b, .int .u64 c]) (t := 41) (by simp) 1 rfl
  have c_q1_2 := H0.out.cell (b := q1) (cs := #[.int .u64 a, .int .u64 b, .int .u64 c]) (t := 41) (by simp) 2 rfl
  go_wp2_with fail
  refine (up17 _ (G.out.below H0.out.2)).mono ?_
  rintro e' w1 ⟨rfl, hb1n⟩
  have H1 := Lib.hid (H0.out.next hb1n)
  clear c_q2_0 c_q2_1 c_q2_2 c_q1_0 c_q1_1 c_q1_2
  clear hb1n H0
  have c_q2_0 := H1.out.cell (b := q2) (cs := #[.int .u64 a', .int .u64 b', .int .u64 c']) (t := 41) (by simp) 0 rfl
  have c_q2_1 := H1.out.cell (b := q2) (cs := #[.int .u64 a', .int .u64 b', .int .u64 c']) (t := 41) (by simp) 1 rfl
  have c_q2_2 := H1.out.cell (b := q2) (cs := #[.int .u64 a', .int .u64 b', .int .u64 c']) (t := 41) (by simp) 2 rfl
  have c_q1_0 := H1.out.cell (b := q1) (cs := #[.int .u64 a, .int .u64 b, .int .u64 c]) (t := 41) (by simp) 0 rfl
  have c_q1_1 := H1.out.cell (b := q1) (cs := #[.int .u64 a, .int .u64 b, .int .u64 c]) (t := 41) (by simp) 1 rfl
  have c_q1_2 := H1.out.cell (b := q1) (cs := #[.int .u64 a, .int .u64 b, .int .u64 c]) (t := 41) (by simp) 2 rfl
  go_wp2_with fail
  refine (cA.out _).mono ?_
  rintro e' w2 ⟨rfl, hb2n⟩
  have H2 := Lib.hid (H1.out.next hb2n)
  clear c_q2_0 c_q2_1 c_q2_2 c_q1_0 c_q1_1 c_q1_2
  clear hb2n H1
  have c_q2_0 := H2.out.cell (b := q2) (cs := #[.int .u64 a', .int .u64 b', .int .u64 c']) (t := 41) (by simp) 0 rfl
  have c_q2_1 := H2.out.cell (b := q2) (cs := #[.int .u64 a', .int .u64 b', .int .u64 c']) (t := 41) (by simp) 1 rfl
  have c_q2_2 := H2.out.cell (b := q2) (cs := #[.int .u64 a', .int .u64 b', .int .u64 c']) (t := 41) (by simp) 2 rfl
  have c_q1_0 := H2.out.cell (b := q1) (cs := #[.int .u64 a, .int .u64 b, .int .u64 c]) (t := 41) (by simp) 0 rfl
  have c_q1_1 := H2.out.cell (b := q1) (cs := #[.int .u64 a, .int .u64 b, .int .u64 c]) (t := 41) (by simp) 1 rfl
  have c_q1_2 := H2.out.cell (b := q1) (cs := #[.int .u64 a, .int .u64 b, .int .u64 c]) (t := 41) (by simp) 2 rfl
  go_wp2_with fail
  refine (cB.out _).mono ?_
  rintro e' w3 ⟨rfl, hb3n⟩
  have H3 := Lib.hid (H2.out.next hb3n)
  clear c_q2_0 c_q2_1 c_q2_2 c_q1_0 c_q1_1 c_q1_2
  clear hb3n H2
  have c_q2_0 := H3.out.cell (b := q2) (cs := #[.int .u64 a', .int .u64 b', .int .u64 c']) (t := 41) (by simp) 0 rfl
  have c_q2_1 := H3.out.cell (b := q2) (cs := #[.int .u64 a', .int .u64 b', .int .u64 c']) (t := 41) (by simp) 1 rfl
  have c_q2_2 := H3.out.cell (b := q2) (cs := #[.int .u64 a', .int .u64 b', .int .u64 c']) (t := 41) (by simp) 2 rfl
  have c_q1_0 := H3.out.cell (b := q1) (cs := #[.int .u64 a, .int .u64 b, .int .u64 c]) (t := 41) (by simp) 0 rfl
  have c_q1_1 := H3.out.cell (b := q1) (cs := #[.int .u64 a, .int .u64 b, .int .u64 c]) (t := 41) (by simp) 1 rfl
  have c_q1_2 := H3.out.cell (b := q1) (cs := #[.int .u64 a, .int .u64 b, .int .u64 c]) (t := 41) (by simp) 2 rfl
  go_upto_region 7 with fail
  clear c_q2_0 c_q2_1 c_q2_2 c_q1_0 c_q1_1 c_q1_2
  have HK := Lib.hid (H3.out.new #[.int .u64 a, .int .u64 b, .int .u64 c] 22)
  clear H3
  generalize w3.alloc (.cells #[.int .u64 a, .int .u64 b, .int .u64 c] 22) = w7 at HK ⊢
  obtain ⟨ql, hql⟩ : ∃ z, w3.heap.size = z := ⟨_, rfl⟩
  rw [hql] at HK ⊢
  have HK7 : Hid (HR w w7 [(ql, #[.int .u64 a, .int .u64 b, .int .u64 c], 22), (q2, #[.int .u64 a', .int .u64 b', .int .u64 c'], 41), (q1, #[.int .u64 a, .int .u64 b, .int .u64 c], 41)]) := Lib.hid HK.out
  replace hql := Lib.hid hql
  clear HK
  have c_q2_0 := HK7.out.cell (b := q2) (cs := #[.int .u64 a', .int .u64 b', .int .u64 c']) (t := 41) (by simp) 0 rfl
  have c_q2_1 := HK7.out.cell (b := q2) (cs := #[.int .u64 a', .int .u64 b', .int .u64 c']) (t := 41) (by simp) 1 rfl
  have c_q2_2 := HK7.out.cell (b := q2) (cs := #[.int .u64 a', .int .u64 b', .int .u64 c']) (t := 41) (by simp) 2 rfl
  go_upto_region 11 with fail
  clear c_q2_0 c_q2_1 c_q2_2
  have HL := Lib.hid (HK7.out.new #[.int .u64 a', .int .u64 b', .int .u64 c'] 22)
  generalize w7.alloc (.cells #[.int .u64 a', .int .u64 b', .int .u64 c'] 22) = w8 at HL ⊢
  obtain ⟨qm, hqm⟩ : ∃ z, w7.heap.size = z := ⟨_, rfl⟩
  rw [hqm] at HL ⊢
  replace hqm := Lib.hid hqm
  have HX0 : Hid (HR w w8 [(qm, #[.int .u64 a', .int .u64 b', .int .u64 c'], 22), (ql, #[.int .u64 a, .int .u64 b, .int .u64 c], 22)]) := Lib.hid (HR.sub HL.out (by simp))
  clear HL HK7 hq
  go_loopw [12, 13, 14] (fun q1 q2 q3 wr => ∃ (j : Nat) (g h i : Int), q1 = .int .u64 g ∧ q2 = .int .u64 h ∧ q3 = .int .i64 i ∧ Hid ((j : Int) = i ∧ j ≤ 3 ∧ ((Obol.manyS [a.toNat, b.toNat, c.toNat] j : Nat) : Int) = g ∧ ((Obol.manyS [a'.toNat, b'.toNat, c'.toNat] j : Nat) : Int) = h) ∧ Hid (∀ i, i < j → Obol.manyS [a.toNat, b.toNat, c.toNat] (i + 1) = Obol.manyS [a'.toNat, b'.toNat, c'.toNat] (i + 1) → Obol.manyS [a.toNat, b.toNat, c.toNat] i = Obol.manyS [a'.toNat, b'.toNat, c'.toNat] i ∧ [a.toNat, b.toNat, c.toNat].getD i 0 = [a'.toNat, b'.toNat, c'.toNat].getD i 0) ∧ Hid (HR w wr [(qm, #[.int .u64 a', .int .u64 b', .int .u64 c'], 22), (ql, #[.int .u64 a, .int .u64 b, .int .u64 c], 22)])) (fun _ _ q3 _ => (3 - intOf q3).toNat)
  case atStart => exact ⟨0, 3, 3, 0, rfl, rfl, rfl, Lib.hid ⟨rfl, by omega, by rw [many0]; rfl, by rw [many0]; rfl⟩, Lib.hid (fun i h => absurd h (by omega)), HX0⟩
  case round =>
    clear HX0
    rename World => wr
    obtain ⟨j, g, h, i, rfl, rfl, rfl, hJ, hA, HX⟩ := hrel
    have i0 : 0 ≤ i := by have := hJ.out.1; omega
    have i3 : i ≤ 3 := by have := hJ.out; omega
    have g0 : 0 ≤ g := by have := hJ.out; omega
    have h0 : 0 ≤ h := by have := hJ.out; omega
    by_cases hi : i < 3
    · have hce : ∃ e f : Int, wr.cell? ⟨ql, i.toNat, none⟩ = some (.int .u64 e) ∧ wr.cell? ⟨qm, i.toNat, none⟩ = some (.int .u64 f) ∧ 0 ≤ e ∧ 0 ≤ f ∧ e.toNat = [a.toNat, b.toNat, c.toNat].getD j 0 ∧ f.toNat = [a'.toNat, b'.toNat, c'.toNat].getD j 0 := by
        have hj := hJ.out.1
        match j, (by omega : j < 3) with
        | 0, _ => exact ⟨a, a', by rw [show i.toNat = 0 by omega]; exact HX.out.cell (b := ql) (cs := #[.int .u64 a, .int .u64 b, .int .u64 c]) (t := 22) (by simp) 0 rfl, by rw [show i.toNat = 0 by omega]; exact HX.out.cell (b := qm) (cs := #[.int .u64 a', .int .u64 b', .int .u64 c']) (t := 22) (by simp) 0 rfl, a0, a0', rfl, rfl⟩
        | 1, _ => exact ⟨b, b', by rw [show i.toNat = 1 by omega]; exact HX.out.cell (b := ql) (cs := #[.int .u64 a, .int .u64 b, .int .u64 c]) (t := 22) (by simp) 1 rfl, by rw [show i.toNat = 1 by omega]; exact HX.out.cell (b := qm) (cs := #[.int .u64 a', .int .u64 b', .int .u64 c']) (t := 22) (by simp) 1 rfl, b0, b0', rfl, rfl⟩
        | 2, _ => exact ⟨c, c', by rw [show i.toNat = 2 by omega]; exact HX.out.cell (b := ql) (cs := #[.int .u64 a, .int .u64 b, .int .u64 c]) (t := 22) (by simp) 2 rfl, by rw [show i.toNat = 2 by omega]; exact HX.out.cell (b := qm) (cs := #[.int .u64 a', .int .u64 b', .int .u64 c']) (t := 22) (by simp) 2 rfl, c0, c0', rfl, rfl⟩
      obtain ⟨e, f, ce, cf, e0, f0, he, hf⟩ := hce
      have c2 := fun w => r10Two g e g0 e0 w
      have c3 := fun w => r10Two h f h0 f0 w
      obtain ⟨s, hs⟩ : ∃ s : Int, ((Obol.twoN g.toNat e.toNat : Nat) : Int) = s := ⟨_, rfl⟩
      obtain ⟨t, ht⟩ : ∃ t : Int, ((Obol.twoN h.toNat f.toNat : Nat) : Int) = t := ⟨_, rfl⟩
      rw [hs] at c2
      rw [ht] at c3
      have hS : ((Obol.manyS [a.toNat, b.toNat, c.toNat] (j + 1) : Nat) : Int) = s := by
        show ((Obol.twoN (Obol.manyS [a.toNat, b.toNat, c.toNat] j) ([a.toNat, b.toNat, c.toNat].getD j 0) : Nat) : Int) = s
        rw [← hs, he, show g.toNat = Obol.manyS [a.toNat, b.toNat, c.toNat] j by have := hJ.out; omega]
      have hT : ((Obol.manyS [a'.toNat, b'.toNat, c'.toNat] (j + 1) : Nat) : Int) = t := by
        show ((Obol.twoN (Obol.manyS [a'.toNat, b'.toNat, c'.toNat] j) ([a'.toNat, b'.toNat, c'.toNat].getD j 0) : Nat) : Int) = t
        rw [← ht, hf, show h.toNat = Obol.manyS [a'.toNat, b'.toNat, c'.toNat] j by have := hJ.out; omega]
      have hall : ((s = t → g = h ∧ e = f) → ∀ i, i < j + 1 → Obol.manyS [a.toNat, b.toNat, c.toNat] (i + 1) = Obol.manyS [a'.toNat, b'.toNat, c'.toNat] (i + 1) → Obol.manyS [a.toNat, b.toNat, c.toNat] i = Obol.manyS [a'.toNat, b'.toNat, c'.toNat] i ∧ [a.toNat, b.toNat, c.toNat].getD i 0 = [a'.toNat, b'.toNat, c'.toNat].getD i 0) := fun hk k hk2 he2 => by
        rcases Nat.lt_succ_iff_lt_or_eq.1 hk2 with hk3 | rfl
        · exact hA.out k hk3 he2
        · obtain ⟨k1, k2⟩ := hk (by rw [← hS, ← hT, he2])
          have := hJ.out
          exact ⟨by omega, by rw [← he, ← hf, k2]⟩
      replace hall := Lib.hid hall
      replace hS := Lib.hid hS
      replace hT := Lib.hid hT
      replace c2 := Lib.hid c2
      replace c3 := Lib.hid c3
      clear hs ht he hf
      go_wp2_with fail
      refine (c2.out _).mono ?_
      rintro e' w9 ⟨rfl, n9, rfl⟩
      go_wp2_with fail
      refine (c3.out _).mono ?_
      rintro e' w10 ⟨rfl, n10, rfl⟩
      have cl := Lib.hid (show (wr.drewN (n9 + n10)).cell? ⟨ql, i.toNat, none⟩ = some (.int .u64 e) from ce)
      have cm := Lib.hid (show (wr.drewN (n9 + n10)).cell? ⟨qm, i.toNat, none⟩ = some (.int .u64 f) from cf)
      replace HX := Lib.hid (show HR w (wr.drewN (n9 + n10)) [(qm, #[.int .u64 a', .int .u64 b', .int .u64 c'], 22), (ql, #[.int .u64 a, .int .u64 b, .int .u64 c], 22)] from HR.like HX.out rfl rfl rfl rfl)
      clear ce cf
      go_upto_region 15 with fail
      by_cases hst : s = t
      · by_cases hgh : g = h
        · by_cases hef : e = f
          · replace hA := Lib.hid (hall.out fun _ => ⟨hgh, hef⟩)
            subst hst hgh hef
            clear hall
            refine wp_region_noPanic ?_
            refine wp_region_held_drew (S := fun wq => wq.cell? ⟨ql, i.toNat, none⟩ = some (.int .u64 e) ∧ wq.cell? ⟨qm, i.toNat, none⟩ = some (.int .u64 e) ∧ HR w wq [(qm, #[.int .u64 a', .int .u64 b', .int .u64 c'], 22), (ql, #[.int .u64 a, .int .u64 b, .int .u64 c], 22)]) (by kernel_rfl) ?_ (fun hHeld => ?_)
            · exact ⟨cl.out, cm.out, HR.drew HX.out⟩
            refine takeH 0 (fun _ _ _ _ _ h => h) (by kernel_rfl) hHeld rfl (by kernel_rfl) (by rfl) (v := ?_) ?_ ?_
            rotate_left
            ((intro wz hz; (try dsimp only at hz); go_simp) <;> with_reducible rfl)
            try simp only [Act.put, List.setIfInBounds_toArray, List.set_cons_zero, List.set_cons_succ]
            refine takeH 1 (fun _ _ _ _ _ h => h) (by kernel_rfl) hHeld rfl (by kernel_rfl) (by rfl) (v := ?_) ?_ ?_
            rotate_left
            ((intro wz hz; (try dsimp only at hz); go_simp) <;> with_reducible rfl)
            try simp only [Act.put, List.setIfInBounds_toArray, List.set_cons_zero, List.set_cons_succ]
            refine takeH 2 (fun _ _ _ _ _ h => h) (by kernel_rfl) hHeld rfl (by kernel_rfl) (by rfl) (v := .bool true) ?_ ?_
            · intro wz hz
              (try dsimp only at hz)
              go_simp
            try simp only [Act.put, List.setIfInBounds_toArray, List.set_cons_zero, List.set_cons_succ]
            refine takeH 3 (fun _ _ _ _ _ h => h) (by kernel_rfl) hHeld rfl (by kernel_rfl) (by rfl) (v := ?_) ?_ ?_
            rotate_left
            ((intro wz hz; (try dsimp only at hz); go_simp) <;> with_reducible rfl)
            try simp only [Act.put, List.setIfInBounds_toArray, List.set_cons_zero, List.set_cons_succ]
            refine takeH 4 (fun _ _ _ _ _ h => h) (by kernel_rfl) hHeld rfl (by kernel_rfl) (by rfl) (v := ?_) ?_ ?_
            rotate_left
            ((intro wz hz; (try dsimp only at hz); go_simp) <;> with_reducible rfl)
            try simp only [Act.put, List.setIfInBounds_toArray, List.set_cons_zero, List.set_cons_succ]
            refine takeH 5 (fun _ _ _ _ _ h => h) (by kernel_rfl) hHeld rfl (by kernel_rfl) (by rfl) (v := ?_) ?_ ?_
            rotate_left
            ((intro wz hz; (try dsimp only at hz); go_simp) <;> with_reducible rfl)
            try simp only [Act.put, List.setIfInBounds_toArray, List.set_cons_zero, List.set_cons_succ]
            refine takeH 6 (fun _ _ _ _ _ h => h) (by kernel_rfl) hHeld rfl (by kernel_rfl) (by rfl) (v := .bool false) ?_ ?_
            · intro wz hz
              (try dsimp only at hz)
              go_simp
            try simp only [Act.put, List.setIfInBounds_toArray, List.set_cons_zero, List.set_cons_succ]
            refine takeH 7 (fun _ _ _ _ _ h => h) (by kernel_rfl) hHeld rfl (by kernel_rfl) (by rfl) (v := ?_) ?_ ?_
            rotate_left
            ((intro wz hz; (try dsimp only at hz); go_simp) <;> with_reducible rfl)
            try simp only [Act.put, List.setIfInBounds_toArray, List.set_cons_zero, List.set_cons_succ]
            refine takeH 8 (fun _ _ _ _ _ h => h) (by kernel_rfl) hHeld rfl (by kernel_rfl) (by rfl) (v := ?_) ?_ ?_
            rotate_left
            ((intro wz hz; (try dsimp only at hz); go_simp) <;> with_reducible rfl)
            try simp only [Act.put, List.setIfInBounds_toArray, List.set_cons_zero, List.set_cons_succ]
            refine takeH 9 (fun _ _ _ _ _ h => h) (by kernel_rfl) hHeld rfl (by kernel_rfl) (by rfl) (v := ?_) ?_ ?_
            rotate_left
            ((intro wz hz; (try dsimp only at hz); go_simp) <;> with_reducible rfl)
            try simp only [Act.put, List.setIfInBounds_toArray, List.set_cons_zero, List.set_cons_succ]
            refine takeH 10 (fun _ _ _ _ _ h => h) (by kernel_rfl) hHeld rfl (by kernel_rfl) (by rfl) (v := ?_) ?_ ?_
            rotate_left
            ((intro wz hz; (try dsimp only at hz); go_simp) <;> with_reducible rfl)
            try simp only [Act.put, List.setIfInBounds_toArray, List.set_cons_zero, List.set_cons_succ]
            refine takeH 11 (fun _ _ _ _ _ h => h) (by kernel_rfl) hHeld rfl (by kernel_rfl) (by rfl) (v := ?_) ?_ ?_
            rotate_left
            ((intro wz hz; (try dsimp only at hz); go_simp) <;> with_reducible rfl)
            try simp only [Act.put, List.setIfInBounds_toArray, List.set_cons_zero, List.set_cons_succ]
            refine takeH 12 (fun _ _ _ _ _ h => h) (by kernel_rfl) hHeld rfl (by kernel_rfl) (by rfl) (v := ?_) ?_ ?_
            rotate_left
            ((intro wz hz; (try dsimp only at hz); go_simp) <;> with_reducible rfl)
            try simp only [Act.put, List.setIfInBounds_toArray, List.set_cons_zero, List.set_cons_succ]
            refine takeH 13 (fun _ _ _ _ _ h => h) (by kernel_rfl) hHeld rfl (by kernel_rfl) (by rfl) (v := ?_) ?_ ?_
            rotate_left
            ((intro wz hz; (try dsimp only at hz); go_simp) <;> with_reducible rfl)
            try simp only [Act.put, List.setIfInBounds_toArray, List.set_cons_zero, List.set_cons_succ]
            refine takeH 14 (fun _ _ _ _ _ h => h) (by kernel_rfl) hHeld rfl (by kernel_rfl) (by rfl) (v := ?_) ?_ ?_
            rotate_left
            ((intro wz hz; (try dsimp only at hz); go_simp) <;> with_reducible rfl)
            try simp only [Act.put, List.setIfInBounds_toArray, List.set_cons_zero, List.set_cons_succ]
            refine takeH 15 (fun _ _ _ _ _ h => h) (by kernel_rfl) hHeld rfl (by kernel_rfl) (by rfl) (v := ?_) ?_ ?_
            rotate_left
            ((intro wz hz; (try dsimp only at hz); go_simp) <;> with_reducible rfl)
            try simp only [Act.put, List.setIfInBounds_toArray, List.set_cons_zero, List.set_cons_succ]
            refine takeH 16 (fun _ _ _ _ _ h => h) (by kernel_rfl) hHeld rfl (by kernel_rfl) (by rfl) (v := .bool false) ?_ ?_
            · intro wz hz
              (try dsimp only at hz)
              go_simp
            try simp only [Act.put, List.setIfInBounds_toArray, List.set_cons_zero, List.set_cons_succ]
            refine takeH 17 (fun _ _ _ _ _ h => h) (by kernel_rfl) hHeld rfl (by kernel_rfl) (by rfl) (v := ?_) ?_ ?_
            rotate_left
            ((intro wz hz; (try dsimp only at hz); go_simp) <;> with_reducible rfl)
            try simp only [Act.put, List.setIfInBounds_toArray, List.set_cons_zero, List.set_cons_succ]
            refine takeH 18 (fun _ _ _ _ _ h => h) (by kernel_rfl) hHeld rfl (by kernel_rfl) (by rfl) (v := ?_) ?_ ?_
            rotate_left
            ((intro wz hz; (try dsimp only at hz); go_simp) <;> with_reducible rfl)
            try simp only [Act.put, List.setIfInBounds_toArray, List.set_cons_zero, List.set_cons_succ]
            refine wpAnyH_done (by kernel_rfl) (NoPanic.normal ?_) _
            have HY := hHeld.2.2
            clear hHeld cl cm HX
            have hS2 := hS
            go_wp2_with fail
            go_roundw
            case rel => exact ⟨j + 1, _, _, _, rfl, rfl, rfl, Lib.hid ⟨by have := hJ.out; omega, by have := hJ.out; omega, hS.out, hT.out⟩, hA, Lib.hid HY⟩
            case measure => simp [intOf]; omega
          · subst hst hgh
            clear hall hA
            refine wp_region_noPanic ?_
            refine wp_region_held_drew (S := fun wq => wq.cell? ⟨ql, i.toNat, none⟩ = some (.int .u64 e) ∧ wq.cell? ⟨qm, i.toNat, none⟩ = some (.int .u64 f) ∧ HR w wq [(qm, #[.int .u64 a', .int .u64 b', .int .u64 c'], 22), (ql, #[.int .u64 a, .int .u64 b, .int .u64 c], 22)]) (by kernel_rfl) ?_ (fun hHeld => ?_)
            · exact ⟨cl.out, cm.out, HR.drew HX.out⟩
            refine takeH 0 (fun _ _ _ _ _ h => h) (by kernel_rfl) hHeld rfl (by kernel_rfl) (by rfl) (v := ?_) ?_ ?_
            rotate_left
            ((intro wz hz; (try dsimp only at hz); go_simp) <;> with_reducible rfl)
            try simp only [Act.put, List.setIfInBounds_toArray, List.set_cons_zero, List.set_cons_succ]
            refine takeH 1 (fun _ _ _ _ _ h => h) (by kernel_rfl) hHeld rfl (by kernel_rfl) (by rfl) (v := ?_) ?_ ?_
            rotate_left
            ((intro wz hz; (try dsimp only at hz); go_simp) <;> with_reducible rfl)
            try simp only [Act.put, List.setIfInBounds_toArray, List.set_cons_zero, List.set_cons_succ]
            refine takeH 2 (fun _ _ _ _ _ h => h) (by kernel_rfl) hHeld rfl (by kernel_rfl) (by rfl) (v := .bool true) ?_ ?_
            · intro wz hz
              (try dsimp only at hz)
              go_simp
            try simp only [Act.put, List.setIfInBounds_toArray, List.set_cons_zero, List.set_cons_succ]
            refine takeH 3 (fun _ _ _ _ _ h => h) (by kernel_rfl) hHeld rfl (by kernel_rfl) (by rfl) (v := ?_) ?_ ?_
            rotate_left
            ((intro wz hz; (try dsimp only at hz); go_simp) <;> with_reducible rfl)
            try simp only [Act.put, List.setIfInBounds_toArray, List.set_cons_zero, List.set_cons_succ]
            refine takeH 4 (fun _ _ _ _ _ h => h) (by kernel_rfl) hHeld rfl (by kernel_rfl) (by rfl) (v := ?_) ?_ ?_
            rotate_left
            ((intro wz hz; (try dsimp only at hz); go_simp) <;> with_reducible rfl)
            try simp only [Act.put, List.setIfInBounds_toArray, List.set_cons_zero, List.set_cons_succ]
            refine takeH 5 (fun _ _ _ _ _ h => h) (by kernel_rfl) hHeld rfl (by kernel_rfl) (by rfl) (v := ?_) ?_ ?_
            rotate_left
            ((intro wz hz; (try dsimp only at hz); go_simp) <;> with_reducible rfl)
            try simp only [Act.put, List.setIfInBounds_toArray, List.set_cons_zero, List.set_cons_succ]
            refine takeH 6 (fun _ _ _ _ _ h => h) (by kernel_rfl) hHeld rfl (by kernel_rfl) (by rfl) (v := .bool false) ?_ ?_
            · intro wz hz
              (try dsimp only at hz)
              go_simp
            try simp only [Act.put, List.setIfInBounds_toArray, List.set_cons_zero, List.set_cons_succ]
            refine takeH 7 (fun _ _ _ _ _ h => h) (by kernel_rfl) hHeld rfl (by kernel_rfl) (by rfl) (v := ?_) ?_ ?_
            rotate_left
            ((intro wz hz; (try dsimp only at hz); go_simp) <;> with_reducible rfl)
            try simp only [Act.put, List.setIfInBounds_toArray, List.set_cons_zero, List.set_cons_succ]
            refine takeH 8 (fun _ _ _ _ _ h => h) (by kernel_rfl) hHeld rfl (by kernel_rfl) (by rfl) (v := ?_) ?_ ?_
            rotate_left
            ((intro wz hz; (try dsimp only at hz); go_simp) <;> with_reducible rfl)
            try simp only [Act.put, List.setIfInBounds_toArray, List.set_cons_zero, List.set_cons_succ]
            refine takeH 9 (fun _ _ _ _ _ h => h) (by kernel_rfl) hHeld rfl (by kernel_rfl) (by rfl) (v := ?_) ?_ ?_
            rotate_left
            ((intro wz hz; (try dsimp only at hz); go_simp) <;> with_reducible rfl)
            try simp only [Act.put, List.setIfInBounds_toArray, List.set_cons_zero, List.set_cons_succ]
            refine takeH 10 (fun _ _ _ _ _ h => h) (by kernel_rfl) hHeld rfl (by kernel_rfl) (by rfl) (v := ?_) ?_ ?_
            rotate_left
            ((intro wz hz; (try dsimp only at hz); go_simp) <;> with_reducible rfl)
            try simp only [Act.put, List.setIfInBounds_toArray, List.set_cons_zero, List.set_cons_succ]
            refine takeH 11 (fun _ _ _ _ _ h => h) (by kernel_rfl) hHeld rfl (by kernel_rfl) (by rfl) (v := ?_) ?_ ?_
            rotate_left
            ((intro wz hz; (try dsimp only at hz); go_simp) <;> with_reducible rfl)
            try simp only [Act.put, List.setIfInBounds_toArray, List.set_cons_zero, List.set_cons_succ]
            refine takeH 12 (fun _ _ _ _ _ h => h) (by kernel_rfl) hHeld rfl (by kernel_rfl) (by rfl) (v := ?_) ?_ ?_
            rotate_left
            ((intro wz hz; (try dsimp only at hz); go_simp) <;> with_reducible rfl)
            try simp only [Act.put, List.setIfInBounds_toArray, List.set_cons_zero, List.set_cons_succ]
            refine takeH 13 (fun _ _ _ _ _ h => h) (by kernel_rfl) hHeld rfl (by kernel_rfl) (by rfl) (v := ?_) ?_ ?_
            rotate_left
            ((intro wz hz; (try dsimp only at hz); go_simp) <;> with_reducible rfl)
            try simp only [Act.put, List.setIfInBounds_toArray, List.set_cons_zero, List.set_cons_succ]
            refine takeH 14 (fun _ _ _ _ _ h => h) (by kernel_rfl) hHeld rfl (by kernel_rfl) (by rfl) (v := ?_) ?_ ?_
            rotate_left
            ((intro wz hz; (try dsimp only at hz); go_simp) <;> with_reducible rfl)
            try simp only [Act.put, List.setIfInBounds_toArray, List.set_cons_zero, List.set_cons_succ]
            refine takeH 15 (fun _ _ _ _ _ h => h) (by kernel_rfl) hHeld rfl (by kernel_rfl) (by rfl) (v := ?_) ?_ ?_
            rotate_left
            ((intro wz hz; (try dsimp only at hz); go_simp) <;> with_reducible rfl)
            try simp only [Act.put, List.setIfInBounds_toArray, List.set_cons_zero, List.set_cons_succ]
            refine takeH 16 (fun _ _ _ _ _ h => h) (by kernel_rfl) hHeld rfl (by kernel_rfl) (by rfl) (v := .bool true) ?_ ?_
            · intro wz hz
              (try dsimp only at hz)
              go_simp
            try simp only [Act.put, List.setIfInBounds_toArray, List.set_cons_zero, List.set_cons_succ]
            refine takeH 17 (fun _ _ _ _ _ h => h) (by kernel_rfl) hHeld rfl (by kernel_rfl) (by rfl) (v := ?_) ?_ ?_
            rotate_left
            ((intro wz hz; (try dsimp only at hz); go_simp) <;> with_reducible rfl)
            try simp only [Act.put, List.setIfInBounds_toArray, List.set_cons_zero, List.set_cons_succ]
            refine takeH 18 (fun _ _ _ _ _ h => h) (by kernel_rfl) hHeld rfl (by kernel_rfl) (by rfl) (v := ?_) ?_ ?_
            rotate_left
            ((intro wz hz; (try dsimp only at hz); go_simp) <;> with_reducible rfl)
            try simp only [Act.put, List.setIfInBounds_toArray, List.set_cons_zero, List.set_cons_succ]
            refine wpAnyH_done (by kernel_rfl) (NoPanic.normal ?_) _
            have HY := hHeld.2.2
            clear hHeld cl cm HX
            go_wp2_with fail
            go_ret
            exact ⟨by simp, HY.2⟩
        · subst hst
          clear hall hA
          refine wp_region_noPanic ?_
          refine wp_region_held_drew (S := fun wq => wq.cell? ⟨ql, i.toNat, none⟩ = some (.int .u64 e) ∧ wq.cell? ⟨qm, i.toNat, none⟩ = some (.int .u64 f) ∧ HR w wq [(qm, #[.int .u64 a', .int .u64 b', .int .u64 c'], 22), (ql, #[.int .u64 a, .int .u64 b, .int .u64 c], 22)]) (by kernel_rfl) ?_ (fun hHeld => ?_)
          · exact ⟨cl.out, cm.out, HR.drew HX.out⟩
          refine takeH 0 (fun _ _ _ _ _ h => h) (by kernel_rfl) hHeld rfl (by kernel_rfl) (by rfl) (v := ?_) ?_ ?_
          rotate_left
          ((intro wz hz; (try dsimp only at hz); go_simp) <;> with_reducible rfl)
          try simp only [Act.put, List.setIfInBounds_toArray, List.set_cons_zero, List.set_cons_succ]
          refine takeH 1 (fun _ _ _ _ _ h => h) (by kernel_rfl) hHeld rfl (by kernel_rfl) (by rfl) (v := ?_) ?_ ?_
          rotate_left
          ((intro wz hz; (try dsimp only at hz); go_simp) <;> with_reducible rfl)
          try simp only [Act.put, List.setIfInBounds_toArray, List.set_cons_zero, List.set_cons_succ]
          refine takeH 2 (fun _ _ _ _ _ h => h) (by kernel_rfl) hHeld rfl (by kernel_rfl) (by rfl) (v := .bool true) ?_ ?_
          · intro wz hz
            (try dsimp only at hz)
            go_simp
          try simp only [Act.put, List.setIfInBounds_toArray, List.set_cons_zero, List.set_cons_succ]
          refine takeH 3 (fun _ _ _ _ _ h => h) (by kernel_rfl) hHeld rfl (by kernel_rfl) (by rfl) (v := ?_) ?_ ?_
          rotate_left
          ((intro wz hz; (try dsimp only at hz); go_simp) <;> with_reducible rfl)
          try simp only [Act.put, List.setIfInBounds_toArray, List.set_cons_zero, List.set_cons_succ]
          refine takeH 4 (fun _ _ _ _ _ h => h) (by kernel_rfl) hHeld rfl (by kernel_rfl) (by rfl) (v := ?_) ?_ ?_
          rotate_left
          ((intro wz hz; (try dsimp only at hz); go_simp) <;> with_reducible rfl)
          try simp only [Act.put, List.setIfInBounds_toArray, List.set_cons_zero, List.set_cons_succ]
          refine takeH 5 (fun _ _ _ _ _ h => h) (by kernel_rfl) hHeld rfl (by kernel_rfl) (by rfl) (v := ?_) ?_ ?_
          rotate_left
          ((intro wz hz; (try dsimp only at hz); go_simp) <;> with_reducible rfl)
          try simp only [Act.put, List.setIfInBounds_toArray, List.set_cons_zero, List.set_cons_succ]
          refine takeH 6 (fun _ _ _ _ _ h => h) (by kernel_rfl) hHeld rfl (by kernel_rfl) (by rfl) (v := .bool true) ?_ ?_
          · intro wz hz
            (try dsimp only at hz)
            go_simp
          try simp only [Act.put, List.setIfInBounds_toArray, List.set_cons_zero, List.set_cons_succ]
          refine takeH 7 (fun _ _ _ _ _ h => h) (by kernel_rfl) hHeld rfl (by kernel_rfl) (by rfl) (v := ?_) ?_ ?_
          rotate_left
          ((intro wz hz; (try dsimp only at hz); go_simp) <;> with_reducible rfl)
          try simp only [Act.put, List.setIfInBounds_toArray, List.set_cons_zero, List.set_cons_succ]
          refine skipH 8 (fun _ _ _ _ _ h => h) (by kernel_rfl) hHeld rfl (by kernel_rfl) (by rfl) ?_
          try simp only [Act.put, List.setIfInBounds_toArray, List.set_cons_zero, List.set_cons_succ]
          refine skipH 9 (fun _ _ _ _ _ h => h) (by kernel_rfl) hHeld rfl (by kernel_rfl) (by rfl) ?_
          try simp only [Act.put, List.setIfInBounds_toArray, List.set_cons_zero, List.set_cons_succ]
          refine skipH 10 (fun _ _ _ _ _ h => h) (by kernel_rfl) hHeld rfl (by kernel_rfl) (by rfl) ?_
          try simp only [Act.put, List.setIfInBounds_toArray, List.set_cons_zero, List.set_cons_succ]
          refine skipH 11 (fun _ _ _ _ _ h => h) (by kernel_rfl) hHeld rfl (by kernel_rfl) (by rfl) ?_
          try simp only [Act.put, List.setIfInBounds_toArray, List.set_cons_zero, List.set_cons_succ]
          refine skipH 12 (fun _ _ _ _ _ h => h) (by kernel_rfl) hHeld rfl (by kernel_rfl) (by rfl) ?_
          try simp only [Act.put, List.setIfInBounds_toArray, List.set_cons_zero, List.set_cons_succ]
          refine skipH 13 (fun _ _ _ _ _ h => h) (by kernel_rfl) hHeld rfl (by kernel_rfl) (by rfl) ?_
          try simp only [Act.put, List.setIfInBounds_toArray, List.set_cons_zero, List.set_cons_succ]
          refine skipH 14 (fun _ _ _ _ _ h => h) (by kernel_rfl) hHeld rfl (by kernel_rfl) (by rfl) ?_
          try simp only [Act.put, List.setIfInBounds_toArray, List.set_cons_zero, List.set_cons_succ]
          refine skipH 15 (fun _ _ _ _ _ h => h) (by kernel_rfl) hHeld rfl (by kernel_rfl) (by rfl) ?_
          try simp only [Act.put, List.setIfInBounds_toArray, List.set_cons_zero, List.set_cons_succ]
          refine skipH 16 (fun _ _ _ _ _ h => h) (by kernel_rfl) hHeld rfl (by kernel_rfl) (by rfl) ?_
          try simp only [Act.put, List.setIfInBounds_toArray, List.set_cons_zero, List.set_cons_succ]
          refine takeH 17 (fun _ _ _ _ _ h => h) (by kernel_rfl) hHeld rfl (by kernel_rfl) (by rfl) (v := ?_) ?_ ?_
          rotate_left
          ((intro wz hz; (try dsimp only at hz); go_simp) <;> with_reducible rfl)
          try simp only [Act.put, List.setIfInBounds_toArray, List.set_cons_zero, List.set_cons_succ]
          refine takeH 18 (fun _ _ _ _ _ h => h) (by kernel_rfl) hHeld rfl (by kernel_rfl) (by rfl) (v := ?_) ?_ ?_
          rotate_left
          ((intro wz hz; (try dsimp only at hz); go_simp) <;> with_reducible rfl)
          try simp only [Act.put, List.setIfInBounds_toArray, List.set_cons_zero, List.set_cons_succ]
          refine wpAnyH_done (by kernel_rfl) (NoPanic.normal ?_) _
          have HY := hHeld.2.2
          clear hHeld cl cm HX
          go_wp2_with fail
          go_ret
          exact ⟨by simp, HY.2⟩
      · replace hA := Lib.hid (hall.out fun h => (hst h).elim)
        clear hall
        refine wp_region_noPanic ?_
        refine wp_region_held_drew (S := fun wq => wq.cell? ⟨ql, i.toNat, none⟩ = some (.int .u64 e) ∧ wq.cell? ⟨qm, i.toNat, none⟩ = some (.int .u64 f) ∧ HR w wq [(qm, #[.int .u64 a', .int .u64 b', .int .u64 c'], 22), (ql, #[.int .u64 a, .int .u64 b, .int .u64 c], 22)]) (by kernel_rfl) ?_ (fun hHeld => ?_)
        · exact ⟨cl.out, cm.out, HR.drew HX.out⟩
        refine takeH 0 (fun _ _ _ _ _ h => h) (by kernel_rfl) hHeld rfl (by kernel_rfl) (by rfl) (v := ?_) ?_ ?_
        rotate_left
        ((intro wz hz; (try dsimp only at hz); go_simp) <;> with_reducible rfl)
        try simp only [Act.put, List.setIfInBounds_toArray, List.set_cons_zero, List.set_cons_succ]
        refine takeH 1 (fun _ _ _ _ _ h => h) (by kernel_rfl) hHeld rfl (by kernel_rfl) (by rfl) (v := ?_) ?_ ?_
        rotate_left
        ((intro wz hz; (try dsimp only at hz); go_simp) <;> with_reducible rfl)
        try simp only [Act.put, List.setIfInBounds_toArray, List.set_cons_zero, List.set_cons_succ]
        refine takeH 2 (fun _ _ _ _ _ h => h) (by kernel_rfl) hHeld rfl (by kernel_rfl) (by rfl) (v := .bool false) ?_ ?_
        · intro wz hz
          (try dsimp only at hz)
          go_simp
        try simp only [Act.put, List.setIfInBounds_toArray, List.set_cons_zero, List.set_cons_succ]
        refine takeH 3 (fun _ _ _ _ _ h => h) (by kernel_rfl) hHeld rfl (by kernel_rfl) (by rfl) (v := ?_) ?_ ?_
        rotate_left
        ((intro wz hz; (try dsimp only at hz); go_simp) <;> with_reducible rfl)
        try simp only [Act.put, List.setIfInBounds_toArray, List.set_cons_zero, List.set_cons_succ]
        refine skipH 4 (fun _ _ _ _ _ h => h) (by kernel_rfl) hHeld rfl (by kernel_rfl) (by rfl) ?_
        try simp only [Act.put, List.setIfInBounds_toArray, List.set_cons_zero, List.set_cons_succ]
        refine skipH 5 (fun _ _ _ _ _ h => h) (by kernel_rfl) hHeld rfl (by kernel_rfl) (by rfl) ?_
        try simp only [Act.put, List.setIfInBounds_toArray, List.set_cons_zero, List.set_cons_succ]
        refine skipH 6 (fun _ _ _ _ _ h => h) (by kernel_rfl) hHeld rfl (by kernel_rfl) (by rfl) ?_
        try simp only [Act.put, List.setIfInBounds_toArray, List.set_cons_zero, List.set_cons_succ]
        refine skipH 7 (fun _ _ _ _ _ h => h) (by kernel_rfl) hHeld rfl (by kernel_rfl) (by rfl) ?_
        try simp only [Act.put, List.setIfInBounds_toArray, List.set_cons_zero, List.set_cons_succ]
        refine skipH 8 (fun _ _ _ _ _ h => h) (by kernel_rfl) hHeld rfl (by kernel_rfl) (by rfl) ?_
        try simp only [Act.put, List.setIfInBounds_toArray, List.set_cons_zero, List.set_cons_succ]
        refine skipH 9 (fun _ _ _ _ _ h => h) (by kernel_rfl) hHeld rfl (by kernel_rfl) (by rfl) ?_
        try simp only [Act.put, List.setIfInBounds_toArray, List.set_cons_zero, List.set_cons_succ]
        refine skipH 10 (fun _ _ _ _ _ h => h) (by kernel_rfl) hHeld rfl (by kernel_rfl) (by rfl) ?_
        try simp only [Act.put, List.setIfInBounds_toArray, List.set_cons_zero, List.set_cons_succ]
        refine skipH 11 (fun _ _ _ _ _ h => h) (by kernel_rfl) hHeld rfl (by kernel_rfl) (by rfl) ?_
        try simp only [Act.put, List.setIfInBounds_toArray, List.set_cons_zero, List.set_cons_succ]
        refine skipH 12 (fun _ _ _ _ _ h => h) (by kernel_rfl) hHeld rfl (by kernel_rfl) (by rfl) ?_
        try simp only [Act.put, List.setIfInBounds_toArray, List.set_cons_zero, List.set_cons_succ]
        refine skipH 13 (fun _ _ _ _ _ h => h) (by kernel_rfl) hHeld rfl (by kernel_rfl) (by rfl) ?_
        try simp only [Act.put, List.setIfInBounds_toArray, List.set_cons_zero, List.set_cons_succ]
        refine skipH 14 (fun _ _ _ _ _ h => h) (by kernel_rfl) hHeld rfl (by kernel_rfl) (by rfl) ?_
        try simp only [Act.put, List.setIfInBounds_toArray, List.set_cons_zero, List.set_cons_succ]
        refine skipH 15 (fun _ _ _ _ _ h => h) (by kernel_rfl) hHeld rfl (by kernel_rfl) (by rfl) ?_
        try simp only [Act.put, List.setIfInBounds_toArray, List.set_cons_zero, List.set_cons_succ]
        refine skipH 16 (fun _ _ _ _ _ h => h) (by kernel_rfl) hHeld rfl (by kernel_rfl) (by rfl) ?_
        try simp only [Act.put, List.setIfInBounds_toArray, List.set_cons_zero, List.set_cons_succ]
        refine skipH 17 (fun _ _ _ _ _ h => h) (by kernel_rfl) hHeld rfl (by kernel_rfl) (by rfl) ?_
        try simp only [Act.put, List.setIfInBounds_toArray, List.set_cons_zero, List.set_cons_succ]
        refine takeH 18 (fun _ _ _ _ _ h => h) (by kernel_rfl) hHeld rfl (by kernel_rfl) (by rfl) (v := ?_) ?_ ?_
        rotate_left
        ((intro wz hz; (try dsimp only at hz); go_simp) <;> with_reducible rfl)
        try simp only [Act.put, List.setIfInBounds_toArray, List.set_cons_zero, List.set_cons_succ]
        refine wpAnyH_done (by kernel_rfl) (NoPanic.normal ?_) _
        have HY := hHeld.2.2
        clear hHeld cl cm HX
        go_wp2_with fail
        go_roundw
        case rel => exact ⟨j + 1, _, _, _, rfl, rfl, rfl, Lib.hid ⟨by have := hJ.out; omega, by have := hJ.out; omega, hS.out, hT.out⟩, hA, Lib.hid HY⟩
        case measure => simp [intOf]; omega
    · obtain rfl : j = 3 := by have := hJ.out; omega
      exact (hfin.out hA.out).elim
theorem walkApart (w : World) (hG : RowsAt w) (a b c a' b' c' : Int) (a0 : 0 ≤ a) (a1 : a ≤ 18446744073709551615) (b0 : 0 ≤ b) (b1 : b ≤ 18446744073709551615) (c0 : 0 ≤ c) (c1 : c ≤ 18446744073709551615) (a0' : 0 ≤ a') (a1' : a' ≤ 18446744073709551615) (b0' : 0 ≤ b') (b1' : b' ≤ 18446744073709551615) (c0' : 0 ≤ c') (c1' : c' ≤ 18446744073709551615) :
    Calls Tryd.prog 10 #[ntV a b c, ntV a' b' c'] w fun e w' => e = .returned (.bool true) ∧ Below w.heap.size w w' := by
  have G := Lib.hid hG
  by_cases h : mayI a b c
  · by_cases h2 : mayI a' b' c'
    · by_cases he : a = a' ∧ b = b' ∧ c = c'
      · obtain ⟨rfl, rfl, rfl⟩ := he
        exact walkApartE w G a b c a0 b0 c0 h
      · have hq := neqV a b c a' b' c' he
        by_cases hx : Obol.manyN [a.toNat, b.toNat, c.toNat] = Obol.manyN [a'.toNat, b'.toNat, c'.toNat]
        · exact walkApartL w G a b c a' b' c' a0 a1 b0 b1 c0 c1 a0' a1' b0' b1' c0' c1' h h2 hx he hq
        · exact walkApartX w G a b c a' b' c' a0 a1 b0 b1 c0 c1 a0' a1' b0' b1' c0' c1' h h2 hx hq
    · exact walkApartM w G a b c a' b' c' a0 a1 b0 b1 c0 c1 a0' a1' b0' b1' c0' c1' h h2
  · exact walkApartN w G a b c a' b' c' a0 a1 b0 b1 c0 c1 a0' a1' b0' b1' c0' c1' h

end Go.Proofs.YtallfmiikjmgaaaDoor
