import Derived.Test.YtallfmiikjmgaaaDoorZWref17b
import Derived.Test.YtallfmiikjmgaaaDoorZLnkeys
import Derived.Test.YtallfmiikjmgaaaDoorZLnback
set_option linter.unusedVariables false
set_option linter.unusedSimpArgs false
/- Walks: layer 17: notes sealed. -/
namespace Go.Proofs.YtallfmiikjmgaaaDoor
open Go.RowKit

set_option maxRecDepth 8000 in
set_option maxHeartbeats 4000000 in
theorem walkSealsM (w : World) (G : Hid (RowsAt w)) (v o r ow px py e : Int) (v0 : 0 ≤ v) (v1 : v ≤ 18446744073709551615) (o0 : 0 ≤ o) (o1 : o ≤ 18446744073709551615) (r0 : 0 ≤ r) (r1 : r ≤ 18446744073709551615) (w0 : 0 ≤ ow) (w1 : ow ≤ 18446744073709551615) (px0 : 0 ≤ px) (px1 : px ≤ 18446744073709551615) (py0 : 0 ≤ py) (py1 : py ≤ 18446744073709551615) (e0 : 0 ≤ e) (e1 : e ≤ 18446744073709551615) (h : ¬ mayI v o r) :
    Calls Tryd.prog 4 #[ntV v o r, adV ow px py, .int .u64 e] w fun e w' => e = .returned (.bool true) ∧ Below w.heap.size w w' := by
  have cZ := Lib.hid (fun W => nSealBad v o r ow px py e v0 v1 r0 r1 px0 py0 e0 e1 (fun hh => h hh.1) W)
  have hE := fun W => eqErrC W 1 1
  have cM := Lib.hid (fun W => r17MayN v o r h W)
  clear h
  go_enter Tryd.func4, Tryd.ntmps4
  go_upto_region 1 with fail
  have HB := Lib.hid (((HR.refl w).new #[.int .u64 v, .int .u64 o, .int .u64 r] 41).new #[.int .u64 ow, .int .u64 px, .int .u64 py] 31)
  simp only [World.size_alloc] at HB
  generalize (w.alloc (.cells #[.int .u64 v, .int .u64 o, .int .u64 r] 41)).alloc (.cells #[.int .u64 ow, .int .u64 px, .int .u64 py] 31) = w0 at HB ⊢
  obtain ⟨bY, hbY⟩ : ∃ z, w.heap.size + 1 = z := ⟨_, rfl⟩
  obtain ⟨bx, hbx⟩ : ∃ z, w.heap.size = z := ⟨_, rfl⟩
  have H0 : Hid (HR w w0 [(bY, #[.int .u64 ow, .int .u64 px, .int .u64 py], 31), (bx, #[.int .u64 v, .int .u64 o, .int .u64 r], 41)]) := Lib.hid (by rw [← hbY, ← hbx]; exact HB.out)
  rw [hbY, hbx]
  replace hbx := Lib.hid hbx
  replace hbY := Lib.hid hbY
  clear HB
  have c_bY_0 := H0.out.cell (b := bY) (cs := #[.int .u64 ow, .int .u64 px, .int .u64 py]) (t := 31) (by simp) 0 rfl
  have c_bY_1 := H0.out.cell (b := bY) (cs := #[.int .u64 ow, .int .u64 px, .int .u64 py]) (t := 31) (by simp) 1 rfl
  have c_bY_2 := H0.out.cell (b := bY) (cs := #[.int .u64 ow, .int .u64 px, .int .u64 py]) (t := 31) (by simp) 2 rfl
  have c_bx_0 := H0.out.cell (b := bx) (cs := #[.int .u64 v, .int .u64 o, .int .u64 r]) (t := 41) (by simp) 0 rfl
  have c_bx_1 := H0.out.cell (b := bx) (cs := #[.int .u64 v, .int .u64 o, .int .u64 r]) (t := 41) (by simp) 1 rfl
  have c_bx_2 := H0.out.cell (b := bx) (cs := #[.int .u64 v, .int .u64 o, .int .u64 r]) (t := 41) (by simp) 2 rfl
  go_wp2_with fail
  refine (up17 _ (G.out.below H0.out.2)).mono ?_
  rintro e' w1 ⟨rfl, hbn⟩
  have H1 := Lib.hid (H0.out.next hbn)
  clear c_bY_0 c_bY_1 c_bY_2 c_bx_0 c_bx_1 c_bx_2
  clear hbn H0
  have c_bY_0 := H1.out.cell (b := bY) (cs := #[.int .u64 ow, .int .u64 px, .int .u64 py]) (t := 31) (by simp) 0 rfl
  have c_bY_1 := H1.out.cell (b := bY) (cs := #[.int .u64 ow, .int .u64 px, .int .u64 py]) (t := 31) (by simp) 1 rfl
  have c_bY_2 := H1.out.cell (b := bY) (cs := #[.int .u64 ow, .int .u64 px, .int .u64 py]) (t := 31) (by simp) 2 rfl
  have c_bx_0 := H1.out.cell (b := bx) (cs := #[.int .u64 v, .int .u64 o, .int .u64 r]) (t := 41) (by simp) 0 rfl
  have c_bx_1 := H1.out.cell (b := bx) (cs := #[.int .u64 v, .int .u64 o, .int .u64 r]) (t := 41) (by simp) 1 rfl
  have c_bx_2 := H1.out.cell (b := bx) (cs := #[.int .u64 v, .int .u64 o, .int .u64 r]) (t := 41) (by simp) 2 rfl
  go_wp2_with fail
  refine (cZ.out _).mono ?_
  rintro e' w2 ⟨rfl, hbn⟩
  have H2 := Lib.hid (H1.out.next hbn)
  clear c_bY_0 c_bY_1 c_bY_2 c_bx_0 c_bx_1 c_bx_2
  clear hbn H1
  go_upto_region 3 with fail
  have hn := (H2.out).new #[.int .u64 0, .int .u64 0, .slice none 0 0] 44
  generalize w2.alloc (.cells #[.int .u64 0, .int .u64 0, .slice none 0 0] 44) = w3 at hn ⊢
  obtain ⟨bs, hbs⟩ : ∃ z, w2.heap.size = z := ⟨_, rfl⟩
  rw [hbs] at hn ⊢
  have H3 : Hid (HR w w3 [(bs, #[.int .u64 0, .int .u64 0, .slice none 0 0], 44), (bY, #[.int .u64 ow, .int .u64 px, .int .u64 py], 31), (bx, #[.int .u64 v, .int .u64 o, .int .u64 r], 41)]) := Lib.hid hn
  replace hbs := Lib.hid hbs
  clear hn H2
  have c_bs_0 := H3.out.cell (b := bs) (cs := #[.int .u64 0, .int .u64 0, .slice none 0 0]) (t := 44) (by simp) 0 rfl
  have c_bs_1 := H3.out.cell (b := bs) (cs := #[.int .u64 0, .int .u64 0, .slice none 0 0]) (t := 44) (by simp) 1 rfl
  have c_bs_2 := H3.out.cell (b := bs) (cs := #[.int .u64 0, .int .u64 0, .slice none 0 0]) (t := 44) (by simp) 2 rfl
  have c_bY_0 := H3.out.cell (b := bY) (cs := #[.int .u64 ow, .int .u64 px, .int .u64 py]) (t := 31) (by simp) 0 rfl
  have c_bY_1 := H3.out.cell (b := bY) (cs := #[.int .u64 ow, .int .u64 px, .int .u64 py]) (t := 31) (by simp) 1 rfl
  have c_bY_2 := H3.out.cell (b := bY) (cs := #[.int .u64 ow, .int .u64 px, .int .u64 py]) (t := 31) (by simp) 2 rfl
  have c_bx_0 := H3.out.cell (b := bx) (cs := #[.int .u64 v, .int .u64 o, .int .u64 r]) (t := 41) (by simp) 0 rfl
  have c_bx_1 := H3.out.cell (b := bx) (cs := #[.int .u64 v, .int .u64 o, .int .u64 r]) (t := 41) (by simp) 1 rfl
  have c_bx_2 := H3.out.cell (b := bx) (cs := #[.int .u64 v, .int .u64 o, .int .u64 r]) (t := 41) (by simp) 2 rfl
  go_wp2_with fail
  refine (cM.out _).mono ?_
  rintro e' w4 ⟨rfl, hbn⟩
  have H4 := Lib.hid (H3.out.next hbn)
  clear c_bs_0 c_bs_1 c_bs_2 c_bY_0 c_bY_1 c_bY_2 c_bx_0 c_bx_1 c_bx_2
  clear hbn H3
  have c_bs_0 := H4.out.cell (b := bs) (cs := #[.int .u64 0, .int .u64 0, .slice none 0 0]) (t := 44) (by simp) 0 rfl
  have c_bs_1 := H4.out.cell (b := bs) (cs := #[.int .u64 0, .int .u64 0, .slice none 0 0]) (t := 44) (by simp) 1 rfl
  have c_bs_2 := H4.out.cell (b := bs) (cs := #[.int .u64 0, .int .u64 0, .slice none 0 0]) (t := 44) (by simp) 2 rfl
  have c_bY_0 := H4.out.cell (b := bY) (cs := #[.int .u64 ow, .int .u64 px, .int .u64 py]) (t := 31) (by simp) 0 rfl
  have c_bY_1 := H4.out.cell (b := bY) (cs := #[.int .u64 ow, .int .u64 px, .int .u64 py]) (t := 31) (by simp) 1 rfl
  have c_bY_2 := H4.out.cell (b := bY) (cs := #[.int .u64 ow, .int .u64 px, .int .u64 py]) (t := 31) (by simp) 2 rfl
  have c_bx_0 := H4.out.cell (b := bx) (cs := #[.int .u64 v, .int .u64 o, .int .u64 r]) (t := 41) (by simp) 0 rfl
  have c_bx_1 := H4.out.cell (b := bx) (cs := #[.int .u64 v, .int .u64 o, .int .u64 r]) (t := 41) (by simp) 1 rfl
  have c_bx_2 := H4.out.cell (b := bx) (cs := #[.int .u64 v, .int .u64 o, .int .u64 r]) (t := 41) (by simp) 2 rfl
  go_wp2_with fail
  go_ret
  exact ⟨by simp, H4.out.2⟩
set_option maxRecDepth 8000 in
set_option maxHeartbeats 4000000 in
theorem walkSealsP (w : World) (G : Hid (RowsAt w)) (v o r ow px py e : Int) (v0 : 0 ≤ v) (v1 : v ≤ 18446744073709551615) (o0 : 0 ≤ o) (o1 : o ≤ 18446744073709551615) (r0 : 0 ≤ r) (r1 : r ≤ 18446744073709551615) (w0 : 0 ≤ ow) (w1 : ow ≤ 18446744073709551615) (px0 : 0 ≤ px) (px1 : px ≤ 18446744073709551615) (py0 : 0 ≤ py) (py1 : py ≤ 18446744073709551615) (e0 : 0 ≤ e) (e1 : e ≤ 18446744073709551615) (h : mayI v o r) (hp : ¬ (inN (px.toNat, py.toNat) = true ∧ (px.toNat, py.toNat) ≠ (0, 1))) :
    Calls Tryd.prog 4 #[ntV v o r, adV ow px py, .int .u64 e] w fun e w' => e = .returned (.bool true) ∧ Below w.heap.size w w' := by
  have cZ := Lib.hid (fun W => nSealBad v o r ow px py e v0 v1 r0 r1 px0 py0 e0 e1 (fun hh => hp hh.2.1) W)
  have hE := fun W => eqErrC W 1 1
  have cM := Lib.hid (fun W => r17MayY v o r h W)
  have cP := Lib.hid (fun W => r17PointF px py px0 py0 hp W)
  clear h hp
  go_enter Tryd.func4, Tryd.ntmps4
  go_upto_region 1 with fail
  have HB := Lib.hid (((HR.refl w).new #[.int .u64 v, .int .u64 o, .int .u64 r] 41).new #[.int .u64 ow, .int .u64 px, .int .u64 py] 31)
  simp only [World.size_alloc] at HB
  generalize (w.alloc (.cells #[.int .u64 v, .int .u64 o, .int .u64 r] 41)).alloc (.cells #[.int .u64 ow, .int .u64 px, .int .u64 py] 31) = w0 at HB ⊢
  obtain ⟨bY, hbY⟩ : ∃ z, w.heap.size + 1 = z := ⟨_, rfl⟩
  obtain ⟨bx, hbx⟩ : ∃ z, w.heap.size = z := ⟨_, rfl⟩
  have H0 : Hid (HR w w0 [(bY, #[.int .u64 ow, .int .u64 px, .int .u64 py], 31), (bx, #[.int .u64 v, .int .u64 o, .int .u64 r], 41)]) := Lib.hid (by rw [← hbY, ← hbx]; exact HB.out)
  rw [hbY, hbx]
  replace hbx := Lib.hid hbx
  replace hbY := Lib.hid hbY
  clear HB
  have c_bY_0 := H0.out.cell (b := bY) (cs := #[.int .u64 ow, .int .u64 px, .int .u64 py]) (t := 31) (by simp) 0 rfl
  have c_bY_1 := H0.out.cell (b := bY) (cs := #[.int .u64 ow, .int .u64 px, .int .u64 py]) (t := 31) (by simp) 1 rfl
  have c_bY_2 := H0.out.cell (b := bY) (cs := #[.int .u64 ow, .int .u64 px, .int .u64 py]) (t := 31) (by simp) 2 rfl
  have c_bx_0 := H0.out.cell (b := bx) (cs := #[.int .u64 v, .int .u64 o, .int .u64 r]) (t := 41) (by simp) 0 rfl
  have c_bx_1 := H0.out.cell (b := bx) (cs := #[.int .u64 v, .int .u64 o, .int .u64 r]) (t := 41) (by simp) 1 rfl
  have c_bx_2 := H0.out.cell (b := bx) (cs := #[.int .u64 v, .int .u64 o, .int .u64 r]) (t := 41) (by simp) 2 rfl
  go_wp2_with fail
  refine (up17 _ (G.out.below H0.out.2)).mono ?_
  rintro e' w1 ⟨rfl, hbn⟩
  have H1 := Lib.hid (H0.out.next hbn)
  clear c_bY_0 c_bY_1 c_bY_2 c_bx_0 c_bx_1 c_bx_2
  clear hbn H0
  have c_bY_0 := H1.out.cell (b := bY) (cs := #[.int .u64 ow, .int .u64 px, .int .u64 py]) (t := 31) (by simp) 0 rfl
  have c_bY_1 := H1.out.cell (b := bY) (cs := #[.int .u64 ow, .int .u64 px, .int .u64 py]) (t := 31) (by simp) 1 rfl
  have c_bY_2 := H1.out.cell (b := bY) (cs := #[.int .u64 ow, .int .u64 px, .int .u64 py]) (t := 31) (by simp) 2 rfl
  have c_bx_0 := H1.out.cell (b := bx) (cs := #[.int .u64 v, .int .u64 o, .int .u64 r]) (t := 41) (by simp) 0 rfl
  have c_bx_1 := H1.out.cell (b := bx) (cs := #[.int .u64 v, .int .u64 o, .int .u64 r]) (t := 41) (by simp) 1 rfl
  have c_bx_2 := H1.out.cell (b := bx) (cs := #[.int .u64 v, .int .u64 o, .int .u64 r]) (t := 41) (by simp) 2 rfl
  go_wp2_with fail
  refine (cZ.out _).mono ?_
  rintro e' w2 ⟨rfl, hbn⟩
  have H2 := Lib.hid (H1.out.next hbn)
  clear c_bY_0 c_bY_1 c_bY_2 c_bx_0 c_bx_1 c_bx_2
  clear hbn H1
  go_upto_region 3 with fail
  have hn := (H2.out).new #[.int .u64 0, .int .u64 0, .slice none 0 0] 44
  generalize w2.alloc (.cells #[.int .u64 0, .int .u64 0, .slice none 0 0] 44) = w3 at hn ⊢
  obtain ⟨bs, hbs⟩ : ∃ z, w2.heap.size = z := ⟨_, rfl⟩
  rw [hbs] at hn ⊢
  have H3 : Hid (HR w w3 [(bs, #[.int .u64 0, .int .u64 0, .slice none 0 0], 44), (bY, #[.int .u64 ow, .int .u64 px, .int .u64 py], 31), (bx, #[.int .u64 v, .int .u64 o, .int .u64 r], 41)]) := Lib.hid hn
  replace hbs := Lib.hid hbs
  clear hn H2
  have c_bs_0 := H3.out.cell (b := bs) (cs := #[.int .u64 0, .int .u64 0, .slice none 0 0]) (t := 44) (by simp) 0 rfl
  have c_bs_1 := H3.out.cell (b := bs) (cs := #[.int .u64 0, .int .u64 0, .slice none 0 0]) (t := 44) (by simp) 1 rfl
  have c_bs_2 := H3.out.cell (b := bs) (cs := #[.int .u64 0, .int .u64 0, .slice none 0 0]) (t := 44) (by simp) 2 rfl
  have c_bY_0 := H3.out.cell (b := bY) (cs := #[.int .u64 ow, .int .u64 px, .int .u64 py]) (t := 31) (by simp) 0 rfl
  have c_bY_1 := H3.out.cell (b := bY) (cs := #[.int .u64 ow, .int .u64 px, .int .u64 py]) (t := 31) (by simp) 1 rfl
  have c_bY_2 := H3.out.cell (b := bY) (cs := #[.int .u64 ow, .int .u64 px, .int .u64 py]) (t := 31) (by simp) 2 rfl
  have c_bx_0 := H3.out.cell (b := bx) (cs := #[.int .u64 v, .int .u64 o, .int .u64 r]) (t := 41) (by simp) 0 rfl
  have c_bx_1 := H3.out.cell (b := bx) (cs := #[.int .u64 v, .int .u64 o, .int .u64 r]) (t := 41) (by simp) 1 rfl
  have c_bx_2 := H3.out.cell (b := bx) (cs := #[.int .u64 v, .int .u64 o, .int .u64 r]) (t := 41) (by simp) 2 rfl
  go_wp2_with fail
  refine (cM.out _).mono ?_
  rintro e' w4 ⟨rfl, hbn⟩
  have H4 := Lib.hid (H3.out.next hbn)
  clear c_bs_0 c_bs_1 c_bs_2 c_bY_0 c_bY_1 c_bY_2 c_bx_0 c_bx_1 c_bx_2
  clear hbn H3
  have c_bs_0 := H4.out.cell (b := bs) (cs := #[.int .u64 0, .int .u64 0, .slice none 0 0]) (t := 44) (by simp) 0 rfl
  have c_bs_1 := H4.out.cell (b := bs) (cs := #[.int .u64 0, .int .u64 0, .slice none 0 0]) (t := 44) (by simp) 1 rfl
  have c_bs_2 := H4.out.cell (b := bs) (cs := #[.int .u64 0, .int .u64 0, .slice none 0 0]) (t := 44) (by simp) 2 rfl
  have c_bY_0 := H4.out.cell (b := bY) (cs := #[.int .u64 ow, .int .u64 px, .int .u64 py]) (t := 31) (by simp) 0 rfl
  have c_bY_1 := H4.out.cell (b := bY) (cs := #[.int .u64 ow, .int .u64 px, .int .u64 py]) (t := 31) (by simp) 1 rfl
  have c_bY_2 := H4.out.cell (b := bY) (cs := #[.int .u64 ow, .int .u64 px, .int .u64 py]) (t := 31) (by simp) 2 rfl
  have c_bx_0 := H4.out.cell (b := bx) (cs := #[.int .u64 v, .int .u64 o, .int .u64 r]) (t := 41) (by simp) 0 rfl
  have c_bx_1 := H4.out.cell (b := bx) (cs := #[.int .u64 v, .int .u64 o, .int .u64 r]) (t := 41) (by simp) 1 rfl
  have c_bx_2 := H4.out.cell (b := bx) (cs := #[.int .u64 v, .int .u64 o, .int .u64 r]) (t := 41) (by simp) 2 rfl
  go_wp2_with fail
  refine (cP.out _).mono ?_
  rintro e' w5 ⟨rfl, hbn⟩
  have H5 := Lib.hid (H4.out.next hbn)
  clear c_bs_0 c_bs_1 c_bs_2 c_bY_0 c_bY_1 c_bY_2 c_bx_0 c_bx_1 c_bx_2
  clear hbn H4
  have c_bs_0 := H5.out.cell (b := bs) (cs := #[.int .u64 0, .int .u64 0, .slice none 0 0]) (t := 44) (by simp) 0 rfl
  have c_bs_1 := H5.out.cell (b := bs) (cs := #[.int .u64 0, .int .u64 0, .slice none 0 0]) (t := 44) (by simp) 1 rfl
  have c_bs_2 := H5.out.cell (b := bs) (cs := #[.int .u64 0, .int .u64 0, .slice none 0 0]) (t := 44) (by simp) 2 rfl
  have c_bY_0 := H5.out.cell (b := bY) (cs := #[.int .u64 ow, .int .u64 px, .int .u64 py]) (t := 31) (by simp) 0 rfl
  have c_bY_1 := H5.out.cell (b := bY) (cs := #[.int .u64 ow, .int .u64 px, .int .u64 py]) (t := 31) (by simp) 1 rfl
  have c_bY_2 := H5.out.cell (b := bY) (cs := #[.int .u64 ow, .int .u64 px, .int .u64 py]) (t := 31) (by simp) 2 rfl
  have c_bx_0 := H5.out.cell (b := bx) (cs := #[.int .u64 v, .int .u64 o, .int .u64 r]) (t := 41) (by simp) 0 rfl
  have c_bx_1 := H5.out.cell (b := bx) (cs := #[.int .u64 v, .int .u64 o, .int .u64 r]) (t := 41) (by simp) 1 rfl
  have c_bx_2 := H5.out.cell (b := bx) (cs := #[.int .u64 v, .int .u64 o, .int .u64 r]) (t := 41) (by simp) 2 rfl
  go_wp2_with fail
  go_ret
  exact ⟨by simp, H5.out.2⟩
set_option maxRecDepth 8000 in
set_option maxHeartbeats 4000000 in
theorem walkSealsE (w : World) (G : Hid (RowsAt w)) (v o r ow px py e : Int) (v0 : 0 ≤ v) (v1 : v ≤ 18446744073709551615) (o0 : 0 ≤ o) (o1 : o ≤ 18446744073709551615) (r0 : 0 ≤ r) (r1 : r ≤ 18446744073709551615) (w0 : 0 ≤ ow) (w1 : ow ≤ 18446744073709551615) (px0 : 0 ≤ px) (px1 : px ≤ 18446744073709551615) (py0 : 0 ≤ py) (py1 : py ≤ 18446744073709551615) (e0 : 0 ≤ e) (e1 : e ≤ 18446744073709551615) (h : mayI v o r) (hp : (inN (px.toNat, py.toNat) = true ∧ (px.toNat, py.toNat) ≠ (0, 1))) (he : ¬ (1 ≤ e ∧ e < 72057593894066549)) :
    Calls Tryd.prog 4 #[ntV v o r, adV ow px py, .int .u64 e] w fun e w' => e = .returned (.bool true) ∧ Below w.heap.size w w' := by
  have cZ := Lib.hid (fun W => nSealBad v o r ow px py e v0 v1 r0 r1 px0 py0 e0 e1 (fun hh => he hh.2.2) W)
  have hE := fun W => eqErrC W 1 1
  have cM := Lib.hid (fun W => r17MayY v o r h W)
  have cP := Lib.hid (fun W => r17PointT px py px0 py0 hp.1 hp.2 W)
  clear h hp
  by_cases g1 : e = 0
  · subst g1
    clear he
    go_enter Tryd.func4, Tryd.ntmps4
    go_upto_region 1 with fail
    have HB := Lib.hid (((HR.refl w).new #[.int .u64 v, .int .u64 o, .int .u64 r] 41).new #[.int .u64 ow, .int .u64 px, .int .u64 py] 31)
    simp only [World.size_alloc] at HB
    generalize (w.alloc (.cells #[.int .u64 v, .int .u64 o, .int .u64 r] 41)).alloc (.cells #[.int .u64 ow, .int .u64 px, .int .u64 py] 31) = w0 at HB ⊢
    obtain ⟨bY, hbY⟩ : ∃ z, w.heap.size + 1 = z := ⟨_, rfl⟩
    obtain ⟨bx, hbx⟩ : ∃ z, w.heap.size = z := ⟨_, rfl⟩
    have H0 : Hid (HR w w0 [(bY, #[.int .u64 ow, .int .u64 px, .int .u64 py], 31), (bx, #[.int .u64 v, .int .u64 o, .int .u64 r], 41)]) := Lib.hid (by rw [← hbY, ← hbx]; exact HB.out)
    rw [hbY, hbx]
    replace hbx := Lib.hid hbx
    replace hbY := Lib.hid hbY
    clear HB
    have c_bY_0 := H0.out.cell (b := bY) (cs := #[.int .u64 ow, .int .u64 px, .int .u64 py]) (t := 31) (by simp) 0 rfl
    have c_bY_1 := H0.out.cell (b := bY) (cs := #[.int .u64 ow, .int .u64 px, .int .u64 py]) (t := 31) (by simp) 1 rfl
    have c_bY_2 := H0.out.cell (b := bY) (cs := #[.int .u64 ow, .int .u64 px, .int .u64 py]) (t := 31) (by simp) 2 rfl
    have c_bx_0 := H0.out.cell (b := bx) (cs := #[.int .u64 v, .int .u64 o, .int .u64 r]) (t := 41) (by simp) 0 rfl
    have c_bx_1 := H0.out.cell (b := bx) (cs := #[.int .u64 v, .int .u64 o, .int .u64 r]) (t := 41) (by simp) 1 rfl
    have c_bx_2 := H0.out.cell (b := bx) (cs := #[.int .u64 v, .int .u64 o, .int .u64 r]) (t := 41) (by simp) 2 rfl
    go_wp2_with fail
    refine (up17 _ (G.out.below H0.out.2)).mono ?_
    rintro e' w1 ⟨rfl, hbn⟩
    have H1 := Lib.hid (H0.out.next hbn)
    clear c_bY_0 c_bY_1 c_bY_2 c_bx_0 c_bx_1 c_bx_2
    clear hbn H0
    have c_bY_0 := H1.out.cell (b := bY) (cs := #[.int .u64 ow, .int .u64 px, .int .u64 py]) (t := 31) (by simp) 0 rfl
    have c_bY_1 := H1.out.cell (b := bY) (cs := #[.int .u64 ow, .int .u64 px, .int .u64 py]) (t := 31) (by simp) 1 rfl
    have c_bY_2 := H1.out.cell (b := bY) (cs := #[.int .u64 ow, .int .u64 px, .int .u64 py]) (t := 31) (by simp) 2 rfl
    have c_bx_0 := H1.out.cell (b := bx) (cs := #[.int .u64 v, .int .u64 o, .int .u64 r]) (t := 41) (by simp) 0 rfl
    have c_bx_1 := H1.out.cell (b := bx) (cs := #[.int .u64 v, .int .u64 o, .int .u64 r]) (t := 41) (by simp) 1 rfl
    have c_bx_2 := H1.out.cell (b := bx) (cs := #[.int .u64 v, .int .u64 o, .int .u64 r]) (t := 41) (by simp) 2 rfl
    go_wp2_with fail
    refine (cZ.out _).mono ?_
    rintro e' w2 ⟨rfl, hbn⟩
    have H2 := Lib.hid (H1.out.next hbn)
    clear c_bY_0 c_bY_1 c_bY_2 c_bx_0 c_bx_1 c_bx_2
    clear hbn H1
    go_upto_region 3 with fail
    have hn := (H2.out).new #[.int .u64 0, .int .u64 0, .slice none 0 0] 44
    generalize w2.alloc (.cells #[.int .u64 0, .int .u64 0, .slice none 0 0] 44) = w3 at hn ⊢
    obtain ⟨bs, hbs⟩ : ∃ z, w2.heap.size = z := ⟨_, rfl⟩
    rw [hbs] at hn ⊢
    have H3 : Hid (HR w w3 [(bs, #[.int .u64 0, .int .u64 0, .slice none 0 0], 44), (bY, #[.int .u64 ow, .int .u64 px, .int .u64 py], 31), (bx, #[.int .u64 v, .int .u64 o, .int .u64 r], 41)]) := Lib.hid hn
    replace hbs := Lib.hid hbs
    clear hn H2
    have c_bs_0 := H3.out.cell (b := bs) (cs := #[.int .u64 0, .int .u64 0, .slice none 0 0]) (t := 44) (by simp) 0 rfl
    have c_bs_1 := H3.out.cell (b := bs) (cs := #[.int .u64 0, .int .u64 0, .slice none 0 0]) (t := 44) (by simp) 1 rfl
    have c_bs_2 := H3.out.cell (b := bs) (cs := #[.int .u64 0, .int .u64 0, .slice none 0 0]) (t := 44) (by simp) 2 rfl
    have c_bY_0 := H3.out.cell (b := bY) (cs := #[.int .u64 ow, .int .u64 px, .int .u64 py]) (t := 31) (by simp) 0 rfl
    have c_bY_1 := H3.out.cell (b := bY) (cs := #[.int .u64 ow, .int .u64 px, .int .u64 py]) (t := 31) (by simp) 1 rfl
    have c_bY_2 := H3.out.cell (b := bY) (cs := #[.int .u64 ow, .int .u64 px, .int .u64 py]) (t := 31) (by simp) 2 rfl
    have c_bx_0 := H3.out.cell (b := bx) (cs := #[.int .u64 v, .int .u64 o, .int .u64 r]) (t := 41) (by simp) 0 rfl
    have c_bx_1 := H3.out.cell (b := bx) (cs := #[.int .u64 v, .int .u64 o, .int .u64 r]) (t := 41) (by simp) 1 rfl
    have c_bx_2 := H3.out.cell (b := bx) (cs := #[.int .u64 v, .int .u64 o, .int .u64 r]) (t := 41) (by simp) 2 rfl
    go_wp2_with fail
    refine (cM.out _).mono ?_
    rintro e' w4 ⟨rfl, hbn⟩
    have H4 := Lib.hid (H3.out.next hbn)
    clear c_bs_0 c_bs_1 c_bs_2 c_bY_0 c_bY_1 c_bY_2 c_bx_0 c_bx_1 c_bx_2
    clear hbn H3
    have c_bs_0 := H4.out.cell (b := bs) (cs := #[.int .u64 0, .int .u64 0, .slice none 0 0]) (t := 44) (by simp) 0 rfl
    have c_bs_1 := H4.out.cell (b := bs) (cs := #[.int .u64 0, .int .u64 0, .slice none 0 0]) (t := 44) (by simp) 1 rfl
    have c_bs_2 := H4.out.cell (b := bs) (cs := #[.int .u64 0, .int .u64 0, .slice none 0 0]) (t := 44) (by simp) 2 rfl
    have c_bY_0 := H4.out.cell (b := bY) (cs := #[.int .u64 ow, .int .u64 px, .int .u64 py]) (t := 31) (by simp) 0 rfl
    have c_bY_1 := H4.out.cell (b := bY) (cs := #[.int .u64 ow, .int .u64 px, .int .u64 py]) (t := 31) (by simp) 1 rfl
    have c_bY_2 := H4.out.cell (b := bY) (cs := #[.int .u64 ow, .int .u64 px, .int .u64 py]) (t := 31) (by simp) 2 rfl
    have c_bx_0 := H4.out.cell (b := bx) (cs := #[.int .u64 v, .int .u64 o, .int .u64 r]) (t := 41) (by simp) 0 rfl
    have c_bx_1 := H4.out.cell (b := bx) (cs := #[.int .u64 v, .int .u64 o, .int .u64 r]) (t := 41) (by simp) 1 rfl
    have c_bx_2 := H4.out.cell (b := bx) (cs := #[.int .u64 v, .int .u64 o, .int .u64 r]) (t := 41) (by simp) 2 rfl
    go_wp2_with fail
    refine (cP.out _).mono ?_
    rintro e' w5 ⟨rfl, hbn⟩
    have H5 := Lib.hid (H4.out.next hbn)
    clear c_bs_0 c_bs_1 c_bs_2 c_bY_0 c_bY_1 c_bY_2 c_bx_0 c_bx_1 c_bx_2
    clear hbn H4
    have c_bs_0 := H5.out.cell (b := bs) (cs := #[.int .u64 0, .int .u64 0, .slice none 0 0]) (t := 44) (by simp) 0 rfl
    have c_bs_1 := H5.out.cell (b := bs) (cs := #[.int .u64 0, .int .u64 0, .slice none 0 0]) (t := 44) (by simp) 1 rfl
    have c_bs_2 := H5.out.cell (b := bs) (cs := #[.int .u64 0, .int .u64 0, .slice none 0 0]) (t := 44) (by simp) 2 rfl
    have c_bY_0 := H5.out.cell (b := bY) (cs := #[.int .u64 ow, .int .u64 px, .int .u64 py]) (t := 31) (by simp) 0 rfl
    have c_bY_1 := H5.out.cell (b := bY) (cs := #[.int .u64 ow, .int .u64 px, .int .u64 py]) (t := 31) (by simp) 1 rfl
    have c_bY_2 := H5.out.cell (b := bY) (cs := #[.int .u64 ow, .int .u64 px, .int .u64 py]) (t := 31) (by simp) 2 rfl
    have c_bx_0 := H5.out.cell (b := bx) (cs := #[.int .u64 v, .int .u64 o, .int .u64 r]) (t := 41) (by simp) 0 rfl
    have c_bx_1 := H5.out.cell (b := bx) (cs := #[.int .u64 v, .int .u64 o, .int .u64 r]) (t := 41) (by simp) 1 rfl
    have c_bx_2 := H5.out.cell (b := bx) (cs := #[.int .u64 v, .int .u64 o, .int .u64 r]) (t := 41) (by simp) 2 rfl
    go_wp2_with fail
    go_ret
    exact ⟨by simp, H5.out.2⟩
  · have g2 : 72057593894066549 ≤ e := by omega
    clear he
    go_enter Tryd.func4, Tryd.ntmps4
    go_upto_region 1 with fail
    have HB := Lib.hid (((HR.refl w).new #[.int .u64 v, .int .u64 o, .int .u64 r] 41).new #[.int .u64 ow, .int .u64 px, .int .u64 py] 31)
    simp only [World.size_alloc] at HB
    generalize (w.alloc (.cells #[.int .u64 v, .int .u64 o, .int .u64 r] 41)).alloc (.cells #[.int .u64 ow, .int .u64 px, .int .u64 py] 31) = w0 at HB ⊢
    obtain ⟨bY, hbY⟩ : ∃ z, w.heap.size + 1 = z := ⟨_, rfl⟩
    obtain ⟨bx, hbx⟩ : ∃ z, w.heap.size = z := ⟨_, rfl⟩
    have H0 : Hid (HR w w0 [(bY, #[.int .u64 ow, .int .u64 px, .int .u64 py], 31), (bx, #[.int .u64 v, .int .u64 o, .int .u64 r], 41)]) := Lib.hid (by rw [← hbY, ← hbx]; exact HB.out)
    rw [hbY, hbx]
    replace hbx := Lib.hid hbx
    replace hbY := Lib.hid hbY
    clear HB
    have c_bY_0 := H0.out.cell (b := bY) (cs := #[.int .u64 ow, .int .u64 px, .int .u64 py]) (t := 31) (by simp) 0 rfl
    have c_bY_1 := H0.out.cell (b := bY) (cs := #[.int .u64 ow, .int .u64 px, .int .u64 py]) (t := 31) (by simp) 1 rfl
    have c_bY_2 := H0.out.cell (b := bY) (cs := #[.int .u64 ow, .int .u64 px, .int .u64 py]) (t := 31) (by simp) 2 rfl
    have c_bx_0 := H0.out.cell (b := bx) (cs := #[.int .u64 v, .int .u64 o, .int .u64 r]) (t := 41) (by simp) 0 rfl
    have c_bx_1 := H0.out.cell (b := bx) (cs := #[.int .u64 v, .int .u64 o, .int .u64 r]) (t := 41) (by simp) 1 rfl
    have c_bx_2 := H0.out.cell (b := bx) (cs := #[.int .u64 v, .int .u64 o, .int .u64 r]) (t := 41) (by simp) 2 rfl
    go_wp2_with fail
    refine (up17 _ (G.out.below H0.out.2)).mono ?_
    rintro e' w1 ⟨rfl, hbn⟩
    have H1 := Lib.hid (H0.out.next hbn)
    clear c_bY_0 c_bY_1 c_bY_2 c_bx_0 c_bx_1 c_bx_2
    clear hbn H0
    have c_bY_0 := H1.out.cell (b := bY) (cs := #[.int .u64 ow, .int .u64 px, .int .u64 py]) (t := 31) (by simp) 0 rfl
    have c_bY_1 := H1.out.cell (b := bY) (cs := #[.int .u64 ow, .int .u64 px, .int .u64 py]) (t := 31) (by simp) 1 rfl
    have c_bY_2 := H1.out.cell (b := bY) (cs := #[.int .u64 ow, .int .u64 px, .int .u64 py]) (t := 31) (by simp) 2 rfl
    have c_bx_0 := H1.out.cell (b := bx) (cs := #[.int .u64 v, .int .u64 o, .int .u64 r]) (t := 41) (by simp) 0 rfl
    have c_bx_1 := H1.out.cell (b := bx) (cs := #[.int .u64 v, .int .u64 o, .int .u64 r]) (t := 41) (by simp) 1 rfl
    have c_bx_2 := H1.out.cell (b := bx) (cs := #[.int .u64 v, .int .u64 o, .int .u64 r]) (t := 41) (by simp) 2 rfl
    go_wp2_with fail
    refine (cZ.out _).mono ?_
    rintro e' w2 ⟨rfl, hbn⟩
    have H2 := Lib.hid (H1.out.next hbn)
    clear c_bY_0 c_bY_1 c_bY_2 c_bx_0 c_bx_1 c_bx_2
    clear hbn H1
    go_upto_region 3 with fail
    have hn := (H2.out).new #[.int .u64 0, .int .u64 0, .slice none 0 0] 44
    generalize w2.alloc (.cells #[.int .u64 0, .int .u64 0, .slice none 0 0] 44) = w3 at hn ⊢
    obtain ⟨bs, hbs⟩ : ∃ z, w2.heap.size = z := ⟨_, rfl⟩
    rw [hbs] at hn ⊢
    have H3 : Hid (HR w w3 [(bs, #[.int .u64 0, .int .u64 0, .slice none 0 0], 44), (bY, #[.int .u64 ow, .int .u64 px, .int .u64 py], 31), (bx, #[.int .u64 v, .int .u64 o, .int .u64 r], 41)]) := Lib.hid hn
    replace hbs := Lib.hid hbs
    clear hn H2
    have c_bs_0 := H3.out.cell (b := bs) (cs := #[.int .u64 0, .int .u64 0, .slice none 0 0]) (t := 44) (by simp) 0 rfl
    have c_bs_1 := H3.out.cell (b := bs) (cs := #[.int .u64 0, .int .u64 0, .slice none 0 0]) (t := 44) (by simp) 1 rfl
    have c_bs_2 := H3.out.cell (b := bs) (cs := #[.int .u64 0, .int .u64 0, .slice none 0 0]) (t := 44) (by simp) 2 rfl
    have c_bY_0 := H3.out.cell (b := bY) (cs := #[.int .u64 ow, .int .u64 px, .int .u64 py]) (t := 31) (by simp) 0 rfl
    have c_bY_1 := H3.out.cell (b := bY) (cs := #[.int .u64 ow, .int .u64 px, .int .u64 py]) (t := 31) (by simp) 1 rfl
    have c_bY_2 := H3.out.cell (b := bY) (cs := #[.int .u64 ow, .int .u64 px, .int .u64 py]) (t := 31) (by simp) 2 rfl
    have c_bx_0 := H3.out.cell (b := bx) (cs := #[.int .u64 v, .int .u64 o, .int .u64 r]) (t := 41) (by simp) 0 rfl
    have c_bx_1 := H3.out.cell (b := bx) (cs := #[.int .u64 v, .int .u64 o, .int .u64 r]) (t := 41) (by simp) 1 rfl
    have c_bx_2 := H3.out.cell (b := bx) (cs := #[.int .u64 v, .int .u64 o, .int .u64 r]) (t := 41) (by simp) 2 rfl
    go_wp2_with fail
    refine (cM.out _).mono ?_
    rintro e' w4 ⟨rfl, hbn⟩
    have H4 := Lib.hid (H3.out.next hbn)
    clear c_bs_0 c_bs_1 c_bs_2 c_bY_0 c_bY_1 c_bY_2 c_bx_0 c_bx_1 c_bx_2
    clear hbn H3
    have c_bs_0 := H4.out.cell (b := bs) (cs := #[.int .u64 0, .int .u64 0, .slice none 0 0]) (t := 44) (by simp) 0 rfl
    have c_bs_1 := H4.out.cell (b := bs) (cs := #[.int .u64 0, .int .u64 0, .slice none 0 0]) (t := 44) (by simp) 1 rfl
    have c_bs_2 := H4.out.cell (b := bs) (cs := #[.int .u64 0, .int .u64 0, .slice none 0 0]) (t := 44) (by simp) 2 rfl
    have c_bY_0 := H4.out.cell (b := bY) (cs := #[.int .u64 ow, .int .u64 px, .int .u64 py]) (t := 31) (by simp) 0 rfl
    have c_bY_1 := H4.out.cell (b := bY) (cs := #[.int .u64 ow, .int .u64 px, .int .u64 py]) (t := 31) (by simp) 1 rfl
    have c_bY_2 := H4.out.cell (b := bY) (cs := #[.int .u64 ow, .int .u64 px, .int .u64 py]) (t := 31) (by simp) 2 rfl
    have c_bx_0 := H4.out.cell (b := bx) (cs := #[.int .u64 v, .int .u64 o, .int .u64 r]) (t := 41) (by simp) 0 rfl
    have c_bx_1 := H4.out.cell (b := bx) (cs := #[.int .u64 v, .int .u64 o, .int .u64 r]) (t := 41) (by simp) 1 rfl
    have c_bx_2 := H4.out.cell (b := bx) (cs := #[.int .u64 v, .int .u64 o, .int .u64 r]) (t := 41) (by simp) 2 rfl
    go_wp2_with fail
    refine (cP.out _).mono ?_
    rintro e' w5 ⟨rfl, hbn⟩
    have H5 := Lib.hid (H4.out.next hbn)
    clear c_bs_0 c_bs_1 c_bs_2 c_bY_0 c_bY_1 c_bY_2 c_bx_0 c_bx_1 c_bx_2
    clear hbn H4
    have c_bs_0 := H5.out.cell (b := bs) (cs := #[.int .u64 0, .int .u64 0, .slice none 0 0]) (t := 44) (by simp) 0 rfl
    have c_bs_1 := H5.out.cell (b := bs) (cs := #[.int .u64 0, .int .u64 0, .slice none 0 0]) (t := 44) (by simp) 1 rfl
    have c_bs_2 := H5.out.cell (b := bs) (cs := #[.int .u64 0, .int .u64 0, .slice none 0 0]) (t := 44) (by simp) 2 rfl
    have c_bY_0 := H5.out.cell (b := bY) (cs := #[.int .u64 ow, .int .u64 px, .int .u64 py]) (t := 31) (by simp) 0 rfl
    have c_bY_1 := H5.out.cell (b := bY) (cs := #[.int .u64 ow, .int .u64 px, .int .u64 py]) (t := 31) (by simp) 1 rfl
    have c_bY_2 := H5.out.cell (b := bY) (cs := #[.int .u64 ow, .int .u64 px, .int .u64 py]) (t := 31) (by simp) 2 rfl
    have c_bx_0 := H5.out.cell (b := bx) (cs := #[.int .u64 v, .int .u64 o, .int .u64 r]) (t := 41) (by simp) 0 rfl
    have c_bx_1 := H5.out.cell (b := bx) (cs := #[.int .u64 v, .int .u64 o, .int .u64 r]) (t := 41) (by simp) 1 rfl
    have c_bx_2 := H5.out.cell (b := bx) (cs := #[.int .u64 v, .int .u64 o, .int .u64 r]) (t := 41) (by simp) 2 rfl
    go_wp2_with fail
    go_ret
    exact ⟨by simp, H5.out.2⟩
theorem own_drew' {w : World} {base : Nat} {v : Value} {L : List Nat} (h : OwnB w base v L) : OwnB w.drew base v L := h
set_option maxRecDepth 8000 in
set_option maxHeartbeats 4000000 in
theorem walkSealsG (w : World) (G : Hid (RowsAt w)) (v o r ow px py e : Int) (v0 : 0 ≤ v) (v1 : v ≤ 18446744073709551615) (o0 : 0 ≤ o) (o1 : o ≤ 18446744073709551615) (r0 : 0 ≤ r) (r1 : r ≤ 18446744073709551615) (w0 : 0 ≤ ow) (w1 : ow ≤ 18446744073709551615) (px0 : 0 ≤ px) (px1 : px ≤ 18446744073709551615) (py0 : 0 ≤ py) (py1 : py ≤ 18446744073709551615) (e0 : 0 ≤ e) (e1 : e ≤ 18446744073709551615) (h : mayI v o r) (hp : (inN (px.toNat, py.toNat) = true ∧ (px.toNat, py.toNat) ≠ (0, 1))) (h1 : 1 ≤ e) (h2 : e < 72057593894066549) :
    Calls Tryd.prog 4 #[ntV v o r, adV ow px py, .int .u64 e] w fun e w' => e = .returned (.bool true) ∧ Below w.heap.size w w' := by
  have cS := fun W hG => nSeal v o r ow px py e v0 v1 r0 r1 px0 py0 e0 e1 h (fun W => nPointT px py px0 py0 hp.1 hp.2 W) h1 h2 W hG
  have cY := Lib.hid (fun W => r17MayY v o r h W)
  have cP := Lib.hid (fun W => r17PointT px py px0 py0 hp.1 hp.2 W)
  have cG := fun W => r7MulN 223588670687113535 82055451961885530 e (by omega) (by omega) e0 e1 gp_is W
  have cM := fun W => r7MulN px py e px0 py0 e0 e1 (isN_of hp.1) W
  obtain ⟨ex, ey, ex0, ey0, exR, eyR, hex, hey, -⟩ := mul_pt GP e.toNat
  obtain ⟨mx, my, mx0, my0, mxR, myR, hmx, hmy, -⟩ := mul_pt (px.toNat, py.toNat) e.toNat
  rw [hex, hey] at cG
  rw [hmx, hmy] at cM
  have cX := fun W => r17Secret ex ey mx my ex0 ey0 mx0 my0 exR eyR mxR myR W
  have e1' : (ex.toNat, ey.toNat) = Obol.smulN GP e.toNat := Prod.ext (by show ex.toNat = _; omega) (by show ey.toNat = _; omega)
  have e2' : (mx.toNat, my.toNat) = Obol.smulN (px.toNat, py.toNat) e.toNat := Prod.ext (by show mx.toNat = _; omega) (by show my.toNat = _; omega)
  rw [e1', e2'] at cX
  simp only [hex, hey] at cS
  have hK8 := Lib.hid (secL_b8 (Obol.smulN GP e.toNat) (Obol.smulN (px.toNat, py.toNat) e.toNat))
  obtain ⟨K, hK⟩ : ∃ l, secL (Obol.smulN GP e.toNat) (Obol.smulN (px.toNat, py.toNat) e.toNat) = l := ⟨_, rfl⟩
  rw [hK] at cX hK8
  simp only [hK] at cS
  obtain ⟨B, hB⟩ : ∃ l, bodyL K v.toNat r.toNat = l := ⟨_, rfl⟩
  simp only [hB] at cS
  replace cS := Lib.hid cS
  replace cG := Lib.hid cG
  replace cM := Lib.hid cM
  replace cX := Lib.hid cX
  replace hB := Lib.hid hB
  clear hK hex hey hmx hmy e1' e2' h hp ex0 ey0 mx0 my0 exR eyR mxR myR
  go_enter Tryd.func4, Tryd.ntmps4
  go_upto_region 1 with fail
  have HB := Lib.hid (((HR.refl w).new #[.int .u64 v, .int .u64 o, .int .u64 r] 41).new #[.int .u64 ow, .int .u64 px, .int .u64 py] 31)
  simp only [World.size_alloc] at HB
  generalize (w.alloc (.cells #[.int .u64 v, .int .u64 o, .int .u64 r] 41)).alloc (.cells #[.int .u64 ow, .int .u64 px, .int .u64 py] 31) = w0 at HB ⊢
  obtain ⟨bY, hbY⟩ : ∃ z, w.heap.size + 1 = z := ⟨_, rfl⟩
  obtain ⟨bx, hbx⟩ : ∃ z, w.heap.size = z := ⟨_, rfl⟩
  have H0 : Hid (HR w w0 [(bY, #[.int .u64 ow, .int .u64 px, .int .u64 py], 31), (bx, #[.int .u64 v, .int .u64 o, .int .u64 r], 41)]) := Lib.hid (by rw [← hbY, ← hbx]; exact HB.out)
  rw [hbY, hbx]
  replace hbx := Lib.hid hbx
  replace hbY := Lib.hid hbY
  clear HB
  have c_bY_0 := H0.out.cell (b := bY) (cs := #[.int .u64 ow, .int .u64 px, .int .u64 py]) (t := 31) (by simp) 0 rfl
  have c_bY_1 := H0.out.cell (b := bY) (cs := #[.int .u64 ow, .int .u64 px, .int .u64 py]) (t := 31) (by simp) 1 rfl
  have c_bY_2 := H0.out.cell (b := bY) (cs := #[.int .u64 ow, .int .u64 px, .int .u64 py]) (t := 31) (by simp) 2 rfl
  have c_bx_0 := H0.out.cell (b := bx) (cs := #[.int .u64 v, .int .u64 o, .int .u64 r]) (t := 41) (by simp) 0 rfl
  have c_bx_1 := H0.out.cell (b := bx) (cs := #[.int .u64 v, .int .u64 o, .int .u64 r]) (t := 41) (by simp) 1 rfl
  have c_bx_2 := H0.out.cell (b := bx) (cs := #[.int .u64 v, .int .u64 o, .int .u64 r]) (t := 41) (by simp) 2 rfl
  go_wp2_with fail
  refine (up17 _ (G.out.below H0.out.2)).mono ?_
  rintro e' w1 ⟨rfl, hbn⟩
  have H1 := Lib.hid (H0.out.next hbn)
  clear c_bY_0 c_bY_1 c_bY_2 c_bx_0 c_bx_1 c_bx_2
  clear hbn H0
  have c_bY_0 := H1.out.cell (b := bY) (cs := #[.int .u64 ow, .int .u64 px, .int .u64 py]) (t := 31) (by simp) 0 rfl
  have c_bY_1 := H1.out.cell (b := bY) (cs := #[.int .u64 ow, .int .u64 px, .int .u64 py]) (t := 31) (by simp) 1 rfl
  have c_bY_2 := H1.out.cell (b := bY) (cs := #[.int .u64 ow, .int .u64 px, .int .u64 py]) (t := 31) (by simp) 2 rfl
  have c_bx_0 := H1.out.cell (b := bx) (cs := #[.int .u64 v, .int .u64 o, .int .u64 r]) (t := 41) (by simp) 0 rfl
  have c_bx_1 := H1.out.cell (b := bx) (cs := #[.int .u64 v, .int .u64 o, .int .u64 r]) (t := 41) (by simp) 1 rfl
  have c_bx_2 := H1.out.cell (b := bx) (cs := #[.int .u64 v, .int .u64 o, .int .u64 r]) (t := 41) (by simp) 2 rfl
  go_wp2_with fail
  refine (cS.out _ (G.out.below H1.out.2)).mono ?_
  rintro e' w2 ⟨gs, cs, ex', ey', rfl, -, -, -, -, rfl, rfl, hO, hb2⟩
  have hO2 := hO.base H1.out.2.size
  have H2 := Lib.hid (H1.out.next hb2)
  have O2 := Lib.hid hO2
  clear c_bY_0 c_bY_1 c_bY_2 c_bx_0 c_bx_1 c_bx_2
  clear hb2 H1 hO hO2 cS
  go_upto_region 3 with fail
  have O3 := Lib.hid (O2.out.below (bAlloc (Below.refl _ w2) (.cells #[.int .u64 ex, .int .u64 ey, .slice (some ⟨gs, 0, none⟩) 32 cs] 44)))
  clear O2
  have hn := (H2.out).new #[.int .u64 ex, .int .u64 ey, .slice (some ⟨gs, 0, none⟩) 32 cs] 44
  generalize w2.alloc (.cells #[.int .u64 ex, .int .u64 ey, .slice (some ⟨gs, 0, none⟩) 32 cs] 44) = w3 at hn O3 ⊢
  obtain ⟨bs, hbs⟩ : ∃ z, w2.heap.size = z := ⟨_, rfl⟩
  rw [hbs] at hn ⊢
  have H3 : Hid (HR w w3 [(bs, #[.int .u64 ex, .int .u64 ey, .slice (some ⟨gs, 0, none⟩) 32 cs], 44), (bY, #[.int .u64 ow, .int .u64 px, .int .u64 py], 31), (bx, #[.int .u64 v, .int .u64 o, .int .u64 r], 41)]) := Lib.hid hn
  replace hbs := Lib.hid hbs
  clear hn H2
  have c_bY_0 := H3.out.cell (b := bY) (cs := #[.int .u64 ow, .int .u64 px, .int .u64 py]) (t := 31) (by simp) 0 rfl
  have c_bY_1 := H3.out.cell (b := bY) (cs := #[.int .u64 ow, .int .u64 px, .int .u64 py]) (t := 31) (by simp) 1 rfl
  have c_bY_2 := H3.out.cell (b := bY) (cs := #[.int .u64 ow, .int .u64 px, .int .u64 py]) (t := 31) (by simp) 2 rfl
  have c_bx_0 := H3.out.cell (b := bx) (cs := #[.int .u64 v, .int .u64 o, .int .u64 r]) (t := 41) (by simp) 0 rfl
  have c_bx_1 := H3.out.cell (b := bx) (cs := #[.int .u64 v, .int .u64 o, .int .u64 r]) (t := 41) (by simp) 1 rfl
  have c_bx_2 := H3.out.cell (b := bx) (cs := #[.int .u64 v, .int .u64 o, .int .u64 r]) (t := 41) (by simp) 2 rfl
  go_wp2_with fail
  refine (cY.out _).mono ?_
  rintro e' w4 ⟨rfl, hbn⟩
  have H4 := Lib.hid (H3.out.next hbn)
  have O4 := Lib.hid (O3.out.below hbn)
  clear c_bY_0 c_bY_1 c_bY_2 c_bx_0 c_bx_1 c_bx_2
  clear hbn H3 O3
  have c_bY_0 := H4.out.cell (b := bY) (cs := #[.int .u64 ow, .int .u64 px, .int .u64 py]) (t := 31) (by simp) 0 rfl
  have c_bY_1 := H4.out.cell (b := bY) (cs := #[.int .u64 ow, .int .u64 px, .int .u64 py]) (t := 31) (by simp) 1 rfl
  have c_bY_2 := H4.out.cell (b := bY) (cs := #[.int .u64 ow, .int .u64 px, .int .u64 py]) (t := 31) (by simp) 2 rfl
  have c_bx_0 := H4.out.cell (b := bx) (cs := #[.int .u64 v, .int .u64 o, .int .u64 r]) (t := 41) (by simp) 0 rfl
  have c_bx_1 := H4.out.cell (b := bx) (cs := #[.int .u64 v, .int .u64 o, .int .u64 r]) (t := 41) (by simp) 1 rfl
  have c_bx_2 := H4.out.cell (b := bx) (cs := #[.int .u64 v, .int .u64 o, .int .u64 r]) (t := 41) (by simp) 2 rfl
  go_wp2_with fail
  refine (cP.out _).mono ?_
  rintro e' w5 ⟨rfl, hbn⟩
  have H5 := Lib.hid (H4.out.next hbn)
  have O5 := Lib.hid (O4.out.below hbn)
  clear c_bY_0 c_bY_1 c_bY_2 c_bx_0 c_bx_1 c_bx_2
  clear hbn H4 O4
  have g1 : (e == 0) = false := beq_eq_false_iff_ne.2 (by omega)
  have g2 : ¬ 72057593894066549 ≤ e := by omega
  go_wp2_with fail
  refine (r7Gen' _).mono ?_
  rintro e' w5' ⟨rfl, hbn⟩
  have H5' := Lib.hid (H5.out.next hbn)
  have O5' := Lib.hid (O5.out.below hbn)
  clear hbn H5 O5 g1 g2
  go_wp2_with fail
  refine (cG.out _).mono ?_
  rintro e' w6' ⟨rfl, hbn⟩
  have H6' := Lib.hid (H5'.out.next hbn)
  have O6' := Lib.hid (O5'.out.below hbn)
  clear hbn H5' O5'
  go_upto_region 6 with fail
  have O6 := Lib.hid (O6'.out.below (bAlloc (Below.refl _ w6') (.cells #[.int .u64 ex, .int .u64 ey] 29)))
  clear O6'
  have hn := (H6'.out).new #[.int .u64 ex, .int .u64 ey] 29
  generalize w6'.alloc (.cells #[.int .u64 ex, .int .u64 ey] 29) = w6 at hn O6 ⊢
  obtain ⟨bp, hbp⟩ : ∃ z, w6'.heap.size = z := ⟨_, rfl⟩
  rw [hbp] at hn ⊢
  have H6 : Hid (HR w w6 [(bp, #[.int .u64 ex, .int .u64 ey], 29), (bs, #[.int .u64 ex, .int .u64 ey, .slice (some ⟨gs, 0, none⟩) 32 cs], 44), (bY, #[.int .u64 ow, .int .u64 px, .int .u64 py], 31), (bx, #[.int .u64 v, .int .u64 o, .int .u64 r], 41)]) := Lib.hid hn
  replace hbp := Lib.hid hbp
  clear hn H6'
  refine wp_region_noPanic ?_
  refine wp_region_held_drew (S := fun wq => wq.cell? ⟨bp, 0, none⟩ = some (.int .u64 ex) ∧ wq.cell? ⟨bp, 1, none⟩ = some (.int .u64 ey) ∧ wq.cell? ⟨bY, 0, none⟩ = some (.int .u64 ow) ∧ wq.cell? ⟨bY, 1, none⟩ = some (.int .u64 px) ∧ wq.cell? ⟨bY, 2, none⟩ = some (.int .u64 py) ∧ OwnB wq w.heap.size (.slice (some ⟨gs, 0, none⟩) 32 cs) B ∧ HR w wq [(bp, #[.int .u64 ex, .int .u64 ey], 29), (bs, #[.int .u64 ex, .int .u64 ey, .slice (some ⟨gs, 0, none⟩) 32 cs], 44), (bY, #[.int .u64 ow, .int .u64 px, .int .u64 py], 31), (bx, #[.int .u64 v, .int .u64 o, .int .u64 r], 41)]) (by kernel_rfl) ?_ (fun hHeld => ?_)
  · have hq0 := HR.drew H6.out
    exact ⟨HR.cell hq0 (b := bp) (cs := #[.int .u64 ex, .int .u64 ey]) (t := 29) (by simp) 0 rfl, HR.cell hq0 (b := bp) (cs := #[.int .u64 ex, .int .u64 ey]) (t := 29) (by simp) 1 rfl, HR.cell hq0 (b := bY) (cs := #[.int .u64 ow, .int .u64 px, .int .u64 py]) (t := 31) (by simp) 0 rfl, HR.cell hq0 (b := bY) (cs := #[.int .u64 ow, .int .u64 px, .int .u64 py]) (t := 31) (by simp) 1 rfl, HR.cell hq0 (b := bY) (cs := #[.int .u64 ow, .int .u64 px, .int .u64 py]) (t := 31) (by simp) 2 rfl, (own_drew' O6.out), hq0⟩
  refine takeH 0 (fun _ _ _ _ _ h => h) (by kernel_rfl) hHeld rfl (by kernel_rfl) (by rfl) (v := ?_) ?_ ?_
  rotate_left
  ((intro wz hz; (try dsimp only at hz); go_simp) <;> with_reducible rfl)
  try simp only [Act.put, List.setIfInBounds_toArray, List.set_cons_zero, List.set_cons_succ]
  refine takeH 1 (fun _ _ _ _ _ h => h) (by kernel_rfl) hHeld rfl (by kernel_rfl) (by rfl) (v := ?_) ?_ ?_
  rotate_left
  ((intro wz hz; (try dsimp only at hz); go_simp) <;> with_reducible rfl)
  try simp only [Act.put, List.setIfInBounds_toArray, List.set_cons_zero, List.set_cons_succ]
  refine takeH 2 (fun _ _ _ _ _ h => h) (by kernel_rfl) hHeld rfl (by kernel_rfl) (by rfl) (v := ?_) ?_ ?_
  rotate_left
  ((intro wz hz; (try dsimp only at hz); go_simp) <;> with_reducible rfl)
  try simp only [Act.put, List.setIfInBounds_toArray, List.set_cons_zero, List.set_cons_succ]
  refine takeH 3 (fun _ _ _ _ _ h => h) (by kernel_rfl) hHeld rfl (by kernel_rfl) (by rfl) (v := ?_) ?_ ?_
  rotate_left
  ((intro wz hz; (try dsimp only at hz); go_simp) <;> with_reducible rfl)
  try simp only [Act.put, List.setIfInBounds_toArray, List.set_cons_zero, List.set_cons_succ]
  refine stepH 4 (by kernel_rfl) rfl (by rfl) (fun K hK => ?_)
  go_simp
  refine (cM.out _).mono ?_
  rintro e wc1 ⟨rfl, hbc1⟩
  have hrc1 := HR.next hHeld.2.2.2.2.2.2 hbc1
  refine hK.out _ _ ?_ (fun hHeld => ?_)
  · exact ⟨HR.cell hrc1 (b := bp) (cs := #[.int .u64 ex, .int .u64 ey]) (t := 29) (by simp) 0 rfl, HR.cell hrc1 (b := bp) (cs := #[.int .u64 ex, .int .u64 ey]) (t := 29) (by simp) 1 rfl, HR.cell hrc1 (b := bY) (cs := #[.int .u64 ow, .int .u64 px, .int .u64 py]) (t := 31) (by simp) 0 rfl, HR.cell hrc1 (b := bY) (cs := #[.int .u64 ow, .int .u64 px, .int .u64 py]) (t := 31) (by simp) 1 rfl, HR.cell hrc1 (b := bY) (cs := #[.int .u64 ow, .int .u64 px, .int .u64 py]) (t := 31) (by simp) 2 rfl, (hHeld.2.2.2.2.2.1.below hbc1), hrc1⟩
  clear hK K
  try simp only [Act.put, List.setIfInBounds_toArray, List.set_cons_zero, List.set_cons_succ]
  refine stepH 5 (by kernel_rfl) rfl (by rfl) (fun K hK => ?_)
  go_simp
  refine (cX.out _).mono ?_
  rintro e wc2 ⟨gk, ck, rfl, hOk, hbc2⟩
  have hrc2 := HR.next hHeld.2.2.2.2.2.2 hbc2
  refine hK.out _ _ ?_ (fun hHeld => ?_)
  · exact ⟨HR.cell hrc2 (b := bp) (cs := #[.int .u64 ex, .int .u64 ey]) (t := 29) (by simp) 0 rfl, HR.cell hrc2 (b := bp) (cs := #[.int .u64 ex, .int .u64 ey]) (t := 29) (by simp) 1 rfl, HR.cell hrc2 (b := bY) (cs := #[.int .u64 ow, .int .u64 px, .int .u64 py]) (t := 31) (by simp) 0 rfl, HR.cell hrc2 (b := bY) (cs := #[.int .u64 ow, .int .u64 px, .int .u64 py]) (t := 31) (by simp) 1 rfl, HR.cell hrc2 (b := bY) (cs := #[.int .u64 ow, .int .u64 px, .int .u64 py]) (t := 31) (by simp) 2 rfl, (hHeld.2.2.2.2.2.1.below hbc2), hrc2⟩
  clear hK K
  try simp only [Act.put, List.setIfInBounds_toArray, List.set_cons_zero, List.set_cons_succ]
  refine takeH 6 (fun _ _ _ _ _ h => h) (by kernel_rfl) hHeld rfl (by kernel_rfl) (by rfl) (v := ?_) ?_ ?_
  rotate_left
  ((intro wz hz; (try dsimp only at hz); go_simp) <;> with_reducible rfl)
  try simp only [Act.put, List.setIfInBounds_toArray, List.set_cons_zero, List.set_cons_succ]
  refine wpAnyH_done (by kernel_rfl) (NoPanic.normal ?_) _
  have H7 := Lib.hid hHeld.2.2.2.2.2.2
  have O7 := Lib.hid hHeld.2.2.2.2.2.1
  have hOk2 := hOk
  clear hHeld hOk H6 O6
  go_upto_region 7 with fail
  have cB := Lib.hid (r17Body gk 0 ck K hK8.out v o r v0 v1 r0 r1 wc2.drew (own_lt hOk2) (own_blz hOk2 hK8.out.len))
  rw [hB.out] at cB
  clear hOk2
  refine wp_region_noPanic ?_
  refine wp_region_held_drew (S := fun wq => wq.cell? ⟨bp, 0, none⟩ = some (.int .u64 ex) ∧ wq.cell? ⟨bp, 1, none⟩ = some (.int .u64 ey) ∧ wq.cell? ⟨bs, 0, none⟩ = some (.int .u64 ex) ∧ wq.cell? ⟨bs, 1, none⟩ = some (.int .u64 ey) ∧ wq.cell? ⟨bs, 2, none⟩ = some (.slice (some ⟨gs, 0, none⟩) 32 cs) ∧ wq.cell? ⟨bx, 0, none⟩ = some (.int .u64 v) ∧ wq.cell? ⟨bx, 1, none⟩ = some (.int .u64 o) ∧ wq.cell? ⟨bx, 2, none⟩ = some (.int .u64 r) ∧ (convert 42 9 (.slice (some ⟨gs, 0, none⟩) 32 cs)).run Tryd.prog wq = .ok (.string (strB B)) wq ∧ OwnB wq w.heap.size (.slice (some ⟨gs, 0, none⟩) 32 cs) B ∧ HR w wq [(bp, #[.int .u64 ex, .int .u64 ey], 29), (bs, #[.int .u64 ex, .int .u64 ey, .slice (some ⟨gs, 0, none⟩) 32 cs], 44), (bY, #[.int .u64 ow, .int .u64 px, .int .u64 py], 31), (bx, #[.int .u64 v, .int .u64 o, .int .u64 r], 41)]) (by kernel_rfl) ?_ (fun hHeld => ?_)
  · have hq0 := HR.drew H7.out
    exact ⟨HR.cell hq0 (b := bp) (cs := #[.int .u64 ex, .int .u64 ey]) (t := 29) (by simp) 0 rfl, HR.cell hq0 (b := bp) (cs := #[.int .u64 ex, .int .u64 ey]) (t := 29) (by simp) 1 rfl, HR.cell hq0 (b := bs) (cs := #[.int .u64 ex, .int .u64 ey, .slice (some ⟨gs, 0, none⟩) 32 cs]) (t := 44) (by simp) 0 rfl, HR.cell hq0 (b := bs) (cs := #[.int .u64 ex, .int .u64 ey, .slice (some ⟨gs, 0, none⟩) 32 cs]) (t := 44) (by simp) 1 rfl, HR.cell hq0 (b := bs) (cs := #[.int .u64 ex, .int .u64 ey, .slice (some ⟨gs, 0, none⟩) 32 cs]) (t := 44) (by simp) 2 rfl, HR.cell hq0 (b := bx) (cs := #[.int .u64 v, .int .u64 o, .int .u64 r]) (t := 41) (by simp) 0 rfl, HR.cell hq0 (b := bx) (cs := #[.int .u64 v, .int .u64 o, .int .u64 r]) (t := 41) (by simp) 1 rfl, HR.cell hq0 (b := bx) (cs := #[.int .u64 v, .int .u64 o, .int .u64 r]) (t := 41) (by simp) 2 rfl, (own_conv (own_drew' O7.out)), (own_drew' O7.out), hq0⟩
  refine takeH 0 (fun _ _ _ _ _ h => h) (by kernel_rfl) hHeld rfl (by kernel_rfl) (by rfl) (v := ?_) ?_ ?_
  rotate_left
  ((intro wz hz; (try dsimp only at hz); go_simp) <;> with_reducible rfl)
  try simp only [Act.put, List.setIfInBounds_toArray, List.set_cons_zero, List.set_cons_succ]
  refine takeH 1 (fun _ _ _ _ _ h => h) (by kernel_rfl) hHeld rfl (by kernel_rfl) (by rfl) (v := ?_) ?_ ?_
  rotate_left
  ((intro wz hz; (try dsimp only at hz); go_simp) <;> with_reducible rfl)
  try simp only [Act.put, List.setIfInBounds_toArray, List.set_cons_zero, List.set_cons_succ]
  refine takeH 2 (fun _ _ _ _ _ h => h) (by kernel_rfl) hHeld rfl (by kernel_rfl) (by rfl) (v := ?_) ?_ ?_
  rotate_left
  ((intro wz hz; (try dsimp only at hz); go_simp) <;> with_reducible rfl)
  try simp only [Act.put, List.setIfInBounds_toArray, List.set_cons_zero, List.set_cons_succ]
  refine takeH 3 (fun _ _ _ _ _ h => h) (by kernel_rfl) hHeld rfl (by kernel_rfl) (by rfl) (v := ?_) ?_ ?_
  rotate_left
  ((intro wz hz; (try dsimp only at hz); go_simp) <;> with_reducible rfl)
  try simp only [Act.put, List.setIfInBounds_toArray, List.set_cons_zero, List.set_cons_succ]
  refine takeH 4 (fun _ _ _ _ _ h => h) (by kernel_rfl) hHeld rfl (by kernel_rfl) (by rfl) (v := ?_) ?_ ?_
  rotate_left
  ((intro wz hz; (try dsimp only at hz); go_simp) <;> with_reducible rfl)
  try simp only [Act.put, List.setIfInBounds_toArray, List.set_cons_zero, List.set_cons_succ]
  refine takeH 5 (fun _ _ _ _ _ h => h) (by kernel_rfl) hHeld rfl (by kernel_rfl) (by rfl) (v := ?_) ?_ ?_
  rotate_left
  ((intro wz hz; (try dsimp only at hz); go_simp) <;> with_reducible rfl)
  try simp only [Act.put, List.setIfInBounds_toArray, List.set_cons_zero, List.set_cons_succ]
  refine takeH 6 (fun _ _ _ _ _ h => h) (by kernel_rfl) hHeld rfl (by kernel_rfl) (by rfl) (v := ?_) ?_ ?_
  rotate_left
  ((intro wz hz; (try dsimp only at hz); go_simp) <;> with_reducible rfl)
  try simp only [Act.put, List.setIfInBounds_toArray, List.set_cons_zero, List.set_cons_succ]
  refine takeH 7 (fun _ _ _ _ _ h => h) (by kernel_rfl) hHeld rfl (by kernel_rfl) (by rfl) (v := ?_) ?_ ?_
  rotate_left
  ((intro wz hz; (try dsimp only at hz); go_simp) <;> with_reducible rfl)
  try simp only [Act.put, List.setIfInBounds_toArray, List.set_cons_zero, List.set_cons_succ]
  refine takeH 8 (fun _ _ _ _ _ h => h) (by kernel_rfl) hHeld rfl (by kernel_rfl) (by rfl) (v := ?_) ?_ ?_
  rotate_left
  ((intro wz hz; (try dsimp only at hz); go_simp) <;> with_reducible rfl)
  try simp only [Act.put, List.setIfInBounds_toArray, List.set_cons_zero, List.set_cons_succ]
  refine takeH 9 (fun _ _ _ _ _ h => h) (by kernel_rfl) hHeld rfl (by kernel_rfl) (by rfl) (v := ?_) ?_ ?_
  rotate_left
  ((intro wz hz; (try dsimp only at hz); go_simp) <;> with_reducible rfl)
  try simp only [Act.put, List.setIfInBounds_toArray, List.set_cons_zero, List.set_cons_succ]
  refine takeH 10 (fun _ _ _ _ _ h => h) (by kernel_rfl) hHeld rfl (by kernel_rfl) (by rfl) (v := ?_) ?_ ?_
  rotate_left
  ((intro wz hz; (try dsimp only at hz); go_simp) <;> with_reducible rfl)
  try simp only [Act.put, List.setIfInBounds_toArray, List.set_cons_zero, List.set_cons_succ]
  refine takeH 11 (fun _ _ _ _ _ h => h) (by kernel_rfl) hHeld rfl (by kernel_rfl) (by rfl) (v := ?_) ?_ ?_
  rotate_left
  ((intro wz hz; (try dsimp only at hz); go_simp) <;> with_reducible rfl)
  try simp only [Act.put, List.setIfInBounds_toArray, List.set_cons_zero, List.set_cons_succ]
  refine takeH 12 (fun _ _ _ _ _ h => h) (by kernel_rfl) hHeld rfl (by kernel_rfl) (by rfl) (v := ?_) ?_ ?_
  rotate_left
  ((intro wz hz; (try dsimp only at hz); go_simp) <;> with_reducible rfl)
  try simp only [Act.put, List.setIfInBounds_toArray, List.set_cons_zero, List.set_cons_succ]
  refine takeH 13 (fun _ _ _ _ _ h => h) (by kernel_rfl) hHeld rfl (by kernel_rfl) (by rfl) (v := ?_) ?_ ?_
  rotate_left
  ((intro wz hz; (try dsimp only at hz); go_simp) <;> with_reducible rfl)
  try simp only [Act.put, List.setIfInBounds_toArray, List.set_cons_zero, List.set_cons_succ]
  refine takeH 14 (fun _ _ _ _ _ h => h) (by kernel_rfl) hHeld rfl (by kernel_rfl) (by rfl) (v := ?_) ?_ ?_
  rotate_left
  ((intro wz hz; (try dsimp only at hz); go_simp) <;> with_reducible rfl)
  try simp only [Act.put, List.setIfInBounds_toArray, List.set_cons_zero, List.set_cons_succ]
  refine takeH 15 (fun _ _ _ _ _ h => h) (by kernel_rfl) hHeld rfl (by kernel_rfl) (by rfl) (v := ?_) ?_ ?_
  rotate_left
  ((intro wz hz; (try dsimp only at hz); go_simp) <;> with_reducible rfl)
  try simp only [Act.put, List.setIfInBounds_toArray, List.set_cons_zero, List.set_cons_succ]
  refine takeH 16 (fun _ _ _ _ _ h => h) (by kernel_rfl) hHeld rfl (by kernel_rfl) (by rfl) (v := ?_) ?_ ?_
  rotate_left
  ((intro wz hz; (try dsimp only at hz); go_simp) <;> with_reducible rfl)
  try simp only [Act.put, List.setIfInBounds_toArray, List.set_cons_zero, List.set_cons_succ]
  refine stepH 17 (by kernel_rfl) rfl (by rfl) (fun K hK => ?_)
  go_simp
  refine (cB.out).mono ?_
  rintro e wc1 ⟨gb, cb, rfl, hOb, hbc1⟩
  have hrc1 := HR.next hHeld.2.2.2.2.2.2.2.2.2.2 hbc1
  refine hK.out _ _ ?_ (fun hHeld => ?_)
  · exact ⟨HR.cell hrc1 (b := bp) (cs := #[.int .u64 ex, .int .u64 ey]) (t := 29) (by simp) 0 rfl, HR.cell hrc1 (b := bp) (cs := #[.int .u64 ex, .int .u64 ey]) (t := 29) (by simp) 1 rfl, HR.cell hrc1 (b := bs) (cs := #[.int .u64 ex, .int .u64 ey, .slice (some ⟨gs, 0, none⟩) 32 cs]) (t := 44) (by simp) 0 rfl, HR.cell hrc1 (b := bs) (cs := #[.int .u64 ex, .int .u64 ey, .slice (some ⟨gs, 0, none⟩) 32 cs]) (t := 44) (by simp) 1 rfl, HR.cell hrc1 (b := bs) (cs := #[.int .u64 ex, .int .u64 ey, .slice (some ⟨gs, 0, none⟩) 32 cs]) (t := 44) (by simp) 2 rfl, HR.cell hrc1 (b := bx) (cs := #[.int .u64 v, .int .u64 o, .int .u64 r]) (t := 41) (by simp) 0 rfl, HR.cell hrc1 (b := bx) (cs := #[.int .u64 v, .int .u64 o, .int .u64 r]) (t := 41) (by simp) 1 rfl, HR.cell hrc1 (b := bx) (cs := #[.int .u64 v, .int .u64 o, .int .u64 r]) (t := 41) (by simp) 2 rfl, (own_conv (hHeld.2.2.2.2.2.2.2.2.2.1.below hbc1)), (hHeld.2.2.2.2.2.2.2.2.2.1.below hbc1), hrc1⟩
  clear hK K
  try simp only [Act.put, List.setIfInBounds_toArray, List.set_cons_zero, List.set_cons_succ]
  have hcv := own_conv hOb
  refine stepH 18 (by kernel_rfl) rfl (by rfl) (fun K hK => ?_)
  go_simp
  refine hK.out _ _ ?_ (fun hHeld => ?_)
  · exact hHeld
  clear hK K
  try simp only [Act.put, List.setIfInBounds_toArray, List.set_cons_zero, List.set_cons_succ]
  refine takeH 19 (fun _ _ _ _ _ h => h) (by kernel_rfl) hHeld rfl (by kernel_rfl) (by rfl) (v := ?_) ?_ ?_
  rotate_left
  ((intro wz hz; (try dsimp only at hz); go_simp) <;> with_reducible rfl)
  try simp only [Act.put, List.setIfInBounds_toArray, List.set_cons_zero, List.set_cons_succ]
  refine takeH 20 (fun _ _ _ _ _ h => h) (by kernel_rfl) hHeld rfl (by kernel_rfl) (by rfl) (v := ?_) ?_ ?_
  rotate_left
  ((intro wz hz; (try dsimp only at hz); go_simp) <;> with_reducible rfl)
  try simp only [Act.put, List.setIfInBounds_toArray, List.set_cons_zero, List.set_cons_succ]
  refine takeH 21 (fun _ _ _ _ _ h => h) (by kernel_rfl) hHeld rfl (by kernel_rfl) (by rfl) (v := ?_) ?_ ?_
  rotate_left
  ((intro wz hz; (try dsimp only at hz); go_simp) <;> with_reducible rfl)
  try simp only [Act.put, List.setIfInBounds_toArray, List.set_cons_zero, List.set_cons_succ]
  refine wpAnyH_done (by kernel_rfl) (NoPanic.normal ?_) _
  have H8 := Lib.hid hHeld.2.2.2.2.2.2.2.2.2.2
  clear hHeld hOb hcv
  go_wp2_with fail
  go_ret
  exact ⟨by simp, H8.out.2⟩
theorem walkSeals (w : World) (hG : RowsAt w) (v o r ow px py e : Int) (v0 : 0 ≤ v) (v1 : v ≤ 18446744073709551615) (o0 : 0 ≤ o) (o1 : o ≤ 18446744073709551615) (r0 : 0 ≤ r) (r1 : r ≤ 18446744073709551615) (w0 : 0 ≤ ow) (w1 : ow ≤ 18446744073709551615) (px0 : 0 ≤ px) (px1 : px ≤ 18446744073709551615) (py0 : 0 ≤ py) (py1 : py ≤ 18446744073709551615) (e0 : 0 ≤ e) (e1 : e ≤ 18446744073709551615) :
    Calls Tryd.prog 4 #[ntV v o r, adV ow px py, .int .u64 e] w fun e w' => e = .returned (.bool true) ∧ Below w.heap.size w w' := by
  have G := Lib.hid hG
  by_cases h : mayI v o r
  · by_cases hp : (inN (px.toNat, py.toNat) = true ∧ (px.toNat, py.toNat) ≠ (0, 1))
    · by_cases he : 1 ≤ e ∧ e < 72057593894066549
      · exact walkSealsG w G v o r ow px py e v0 v1 o0 o1 r0 r1 w0 w1 px0 px1 py0 py1 e0 e1 h hp he.1 he.2
      · exact walkSealsE w G v o r ow px py e v0 v1 o0 o1 r0 r1 w0 w1 px0 px1 py0 py1 e0 e1 h hp he
    · exact walkSealsP w G v o r ow px py e v0 v1 o0 o1 r0 r1 w0 w1 px0 px1 py0 py1 e0 e1 h hp
  · exact walkSealsM w G v o r ow px py e v0 v1 o0 o1 r0 r1 w0 w1 px0 px1 py0 py1 e0 e1 h

end Go.Proofs.YtallfmiikjmgaaaDoor
