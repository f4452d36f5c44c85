import Derived.Test.YtallfmiikjmgaaaDoorMJ
import Derived.Test.YtallfmiikjmgaaaDoorZWref17
set_option linter.unusedVariables false
set_option linter.unusedSimpArgs false
/- Walks: layer 17: marks. -/
namespace Go.Proofs.YtallfmiikjmgaaaDoor
open Go.RowKit

set_option maxRecDepth 8000 in
set_option maxHeartbeats 2000000 in
theorem walkNMarks (w : World) (hG0 : RowsAt w) (a b c : Int) (a0 : 0 ≤ a) (a1 : a ≤ 18446744073709551615) (b0 : 0 ≤ b) (b1 : b ≤ 18446744073709551615) (c0 : 0 ≤ c) (c1 : c ≤ 18446744073709551615) :
    Calls Tryd.prog 8 #[ntV a b c] w fun e w' => e = .returned (.bool true) ∧ Below w.heap.size w w' := by
  have G := Lib.hid hG0
  clear hG0
  have hE := fun W => eqErrC W 1 1
  by_cases h : mayI a b c
  · have cC := Lib.hid (fun w => nCheckY a b c h w)
    have cM := Lib.hid (fun w => nMarkY a b c a0 b0 c0 h w)
    have cR := Lib.hid (fun w => r17MayY a b c h w)
    have cK := Lib.hid (fun w => r17Mark a b c a0 b0 c0 w)
    obtain ⟨n, hn⟩ : ∃ n : Int, ((Obol.manyN [a.toNat, b.toNat, c.toNat] : Nat) : Int) = n := ⟨_, rfl⟩
    rw [hn] at cM cK
    clear hn h
    replace cC := Lib.hid cC.out
    go_enter Tryd.func8, Tryd.ntmps8
    go_upto_region 1 with fail
    have HB := Lib.hid ((HR.refl w).new #[.int .u64 a, .int .u64 b, .int .u64 c] 41)
    generalize w.alloc (.cells #[.int .u64 a, .int .u64 b, .int .u64 c] 41) = w0 at HB ⊢
    obtain ⟨bx, hbx⟩ : ∃ z, w.heap.size = z := ⟨_, rfl⟩
    rw [hbx] at HB ⊢
    have H0 : Hid (HR w w0 [(bx, #[.int .u64 a, .int .u64 b, .int .u64 c], 41)]) := Lib.hid HB.out
    clear HB
    replace hbx := Lib.hid hbx
    have c_bx_0 := H0.out.cell (b := bx) (cs := #[.int .u64 a, .int .u64 b, .int .u64 c]) (t := 41) (by simp) 0 rfl
    have c_bx_1 := H0.out.cell (b := bx) (cs := #[.int .u64 a, .int .u64 b, .int .u64 c]) (t := 41) (by simp) 1 rfl
    have c_bx_2 := H0.out.cell (b := bx) (cs := #[.int .u64 a, .int .u64 b, .int .u64 c]) (t := 41) (by simp) 2 rfl
    go_wp2_with fail
    refine (up17 _ (G.out.below H0.out.2)).mono ?_
    rintro e' w1 ⟨rfl, hb1n⟩
    have H1 := Lib.hid (H0.out.next hb1n)
    clear c_bx_0 c_bx_1 c_bx_2
    clear hb1n H0
    have c_bx_0 := H1.out.cell (b := bx) (cs := #[.int .u64 a, .int .u64 b, .int .u64 c]) (t := 41) (by simp) 0 rfl
    have c_bx_1 := H1.out.cell (b := bx) (cs := #[.int .u64 a, .int .u64 b, .int .u64 c]) (t := 41) (by simp) 1 rfl
    have c_bx_2 := H1.out.cell (b := bx) (cs := #[.int .u64 a, .int .u64 b, .int .u64 c]) (t := 41) (by simp) 2 rfl
    go_wp2_with fail
    refine (cC.out _).mono ?_
    rintro e' w2 ⟨rfl, hb2n⟩
    have H2 := Lib.hid (H1.out.next hb2n)
    clear c_bx_0 c_bx_1 c_bx_2
    clear hb2n H1
    have c_bx_0 := H2.out.cell (b := bx) (cs := #[.int .u64 a, .int .u64 b, .int .u64 c]) (t := 41) (by simp) 0 rfl
    have c_bx_1 := H2.out.cell (b := bx) (cs := #[.int .u64 a, .int .u64 b, .int .u64 c]) (t := 41) (by simp) 1 rfl
    have c_bx_2 := H2.out.cell (b := bx) (cs := #[.int .u64 a, .int .u64 b, .int .u64 c]) (t := 41) (by simp) 2 rfl
    go_wp2_with fail
    refine (cM.out _).mono ?_
    rintro e' w3 ⟨rfl, hb3n⟩
    have H3 := Lib.hid (H2.out.next hb3n)
    clear c_bx_0 c_bx_1 c_bx_2
    clear hb3n H2
    have c_bx_0 := H3.out.cell (b := bx) (cs := #[.int .u64 a, .int .u64 b, .int .u64 c]) (t := 41) (by simp) 0 rfl
    have c_bx_1 := H3.out.cell (b := bx) (cs := #[.int .u64 a, .int .u64 b, .int .u64 c]) (t := 41) (by simp) 1 rfl
    have c_bx_2 := H3.out.cell (b := bx) (cs := #[.int .u64 a, .int .u64 b, .int .u64 c]) (t := 41) (by simp) 2 rfl
    go_wp2_with fail
    refine (cR.out _).mono ?_
    rintro e' w4 ⟨rfl, hb4n⟩
    have H4 := Lib.hid (H3.out.next hb4n)
    clear c_bx_0 c_bx_1 c_bx_2
    clear hb4n H3
    have c_bx_0 := H4.out.cell (b := bx) (cs := #[.int .u64 a, .int .u64 b, .int .u64 c]) (t := 41) (by simp) 0 rfl
    have c_bx_1 := H4.out.cell (b := bx) (cs := #[.int .u64 a, .int .u64 b, .int .u64 c]) (t := 41) (by simp) 1 rfl
    have c_bx_2 := H4.out.cell (b := bx) (cs := #[.int .u64 a, .int .u64 b, .int .u64 c]) (t := 41) (by simp) 2 rfl
    go_wp2_with fail
    refine (cK.out _).mono ?_
    rintro e' w5 ⟨rfl, hb5n⟩
    have H5 := Lib.hid (H4.out.next hb5n)
    clear c_bx_0 c_bx_1 c_bx_2
    clear hb5n H4
    go_wp2_with fail
    go_ret
    exact ⟨by simp, H5.out.2⟩
  · have cC := Lib.hid (fun w => nCheckN a b c h w)
    have cM := Lib.hid (fun w => nMarkN a b c h w)
    have cR := Lib.hid (fun w => r17MayN a b c h w)
    clear h
    go_enter Tryd.func8, Tryd.ntmps8
    go_upto_region 1 with fail
    have HB := Lib.hid ((HR.refl w).new #[.int .u64 a, .int .u64 b, .int .u64 c] 41)
    generalize w.alloc (.cells #[.int .u64 a, .int .u64 b, .int .u64 c] 41) = w0 at HB ⊢
    obtain ⟨bx, hbx⟩ : ∃ z, w.heap.size = z := ⟨_, rfl⟩
    rw [hbx] at HB ⊢
    have H0 : Hid (HR w w0 [(bx, #[.int .u64 a, .int .u64 b, .int .u64 c], 41)]) := Lib.hid HB.out
    clear HB
    replace hbx := Lib.hid hbx
    have c_bx_0 := H0.out.cell (b := bx) (cs := #[.int .u64 a, .int .u64 b, .int .u64 c]) (t := 41) (by simp) 0 rfl
    have c_bx_1 := H0.out.cell (b := bx) (cs := #[.int .u64 a, .int .u64 b, .int .u64 c]) (t := 41) (by simp) 1 rfl
    have c_bx_2 := H0.out.cell (b := bx) (cs := #[.int .u64 a, .int .u64 b, .int .u64 c]) (t := 41) (by simp) 2 rfl
    go_wp2_with fail
    refine (up17 _ (G.out.below H0.out.2)).mono ?_
    rintro e' w1 ⟨rfl, hb1n⟩
    have H1 := Lib.hid (H0.out.next hb1n)
    clear c_bx_0 c_bx_1 c_bx_2
    clear hb1n H0
    have c_bx_0 := H1.out.cell (b := bx) (cs := #[.int .u64 a, .int .u64 b, .int .u64 c]) (t := 41) (by simp) 0 rfl
    have c_bx_1 := H1.out.cell (b := bx) (cs := #[.int .u64 a, .int .u64 b, .int .u64 c]) (t := 41) (by simp) 1 rfl
    have c_bx_2 := H1.out.cell (b := bx) (cs := #[.int .u64 a, .int .u64 b, .int .u64 c]) (t := 41) (by simp) 2 rfl
    go_wp2_with fail
    refine (cC.out _).mono ?_
    rintro e' w2 ⟨rfl, hb2n⟩
    have H2 := Lib.hid (H1.out.next hb2n)
    clear c_bx_0 c_bx_1 c_bx_2
    clear hb2n H1
    have c_bx_0 := H2.out.cell (b := bx) (cs := #[.int .u64 a, .int .u64 b, .int .u64 c]) (t := 41) (by simp) 0 rfl
    have c_bx_1 := H2.out.cell (b := bx) (cs := #[.int .u64 a, .int .u64 b, .int .u64 c]) (t := 41) (by simp) 1 rfl
    have c_bx_2 := H2.out.cell (b := bx) (cs := #[.int .u64 a, .int .u64 b, .int .u64 c]) (t := 41) (by simp) 2 rfl
    go_wp2_with fail
    refine (cM.out _).mono ?_
    rintro e' w3 ⟨rfl, hb3n⟩
    have H3 := Lib.hid (H2.out.next hb3n)
    clear c_bx_0 c_bx_1 c_bx_2
    clear hb3n H2
    have c_bx_0 := H3.out.cell (b := bx) (cs := #[.int .u64 a, .int .u64 b, .int .u64 c]) (t := 41) (by simp) 0 rfl
    have c_bx_1 := H3.out.cell (b := bx) (cs := #[.int .u64 a, .int .u64 b, .int .u64 c]) (t := 41) (by simp) 1 rfl
    have c_bx_2 := H3.out.cell (b := bx) (cs := #[.int .u64 a, .int .u64 b, .int .u64 c]) (t := 41) (by simp) 2 rfl
    go_wp2_with fail
    refine (cR.out _).mono ?_
    rintro e' w4 ⟨rfl, hb4n⟩
    have H4 := Lib.hid (H3.out.next hb4n)
    clear c_bx_0 c_bx_1 c_bx_2
    clear hb4n H3
    go_wp2_with fail
    go_ret
    exact ⟨by simp, H4.out.2⟩

end Go.Proofs.YtallfmiikjmgaaaDoor
