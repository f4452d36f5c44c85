import Derived.Test.YtallfmiikjmgaaaDoorMJ
set_option linter.unusedVariables false
set_option linter.unusedSimpArgs false
/- Walks: layer 17: what was sealed is opened as it was. -/
namespace Go.Proofs.YtallfmiikjmgaaaDoor
open Go.RowKit

theorem no00' : ¬ (inN ((0 : Int).toNat, (0 : Int).toNat) = true ∧ ((0 : Int).toNat, (0 : Int).toNat) ≠ (0, 1)) := fun h => by
  rw [inN_far (by rw [Obol.isN_eq]; decide +kernel)] at h
  exact absurd h.1 (by decide)
/-- What can't be sealed. -/
theorem nSealBad (v o r ow px py e : Int) (v0 : 0 ≤ v) (v1 : v ≤ 18446744073709551615) (r0 : 0 ≤ r) (r1 : r ≤ 18446744073709551615) (px0 : 0 ≤ px) (py0 : 0 ≤ py) (e0 : 0 ≤ e) (e1 : e ≤ 18446744073709551615) (h : ¬ (mayI v o r ∧ (inN (px.toNat, py.toNat) = true ∧ (px.toNat, py.toNat) ≠ (0, 1)) ∧ 1 ≤ e ∧ e < 72057593894066549)) (W : World) :
    Calls Tryd.prog 19 #[ntV v o r, adV ow px py, .int .u64 e] W fun e' w' => e' = .returned (.tuple #[.agg #[.int .u64 0, .int .u64 0, .slice none 0 0], errN 1]) ∧ Below W.heap.size W w' := by
  by_cases hm : mayI v o r
  · by_cases hp : inN (px.toNat, py.toNat) = true ∧ (px.toNat, py.toNat) ≠ (0, 1)
    · exact nSealOut v o r ow px py e v0 v1 r0 r1 px0 py0 e0 e1 hm (fun W => nPointT px py px0 py0 hp.1 hp.2 W) (by by_cases h1 : e < 1; exact .inl h1; exact .inr (by have : ¬ e < 72057593894066549 := fun h2 => h ⟨hm, hp, by omega, h2⟩; omega)) W
    · exact nSealPoint v o r ow px py e v0 v1 r0 r1 px0 py0 e0 e1 hm (fun W => nPointF px py px0 py0 hp W) W
  · exact nSealMay v o r ow px py e v0 v1 r0 r1 px0 py0 e0 e1 hm W
set_option maxRecDepth 8000 in
set_option maxHeartbeats 4000000 in
theorem walkBackK (w : World) (G : Hid (RowsAt w)) (k v o r e : Int) (k0 : 0 ≤ k) (k1 : k ≤ 18446744073709551615) (v0 : 0 ≤ v) (v1 : v ≤ 18446744073709551615) (o0 : 0 ≤ o) (o1 : o ≤ 18446744073709551615) (r0 : 0 ≤ r) (r1 : r ≤ 18446744073709551615) (e0 : 0 ≤ e) (e1 : e ≤ 18446744073709551615) (h : ¬ (1 ≤ k ∧ k < 288230376287764481)) :
    Calls Tryd.prog 6 #[.int .u64 k, ntV v o r, .int .u64 e] w fun e w' => e = .returned (.bool true) ∧ Below w.heap.size w w' := by
  have cA := Lib.hid (fun w => nAddrN k h w)
  have cZ := Lib.hid (fun W => nSealBad v o r 0 0 0 e v0 v1 r0 r1 (by omega) (by omega) e0 e1 (fun hh => no00' hh.2.1) W)
  clear h
  go_enter Tryd.func6, Tryd.ntmps6
  go_upto_region 1 with fail
  have HB := Lib.hid ((HR.refl w).new #[.int .u64 v, .int .u64 o, .int .u64 r] 41)
  generalize w.alloc (.cells #[.int .u64 v, .int .u64 o, .int .u64 r] 41) = w0 at HB ⊢
  obtain ⟨bx, hbx⟩ : ∃ z, w.heap.size = z := ⟨_, rfl⟩
  have H0 : Hid (HR w w0 [(bx, #[.int .u64 v, .int .u64 o, .int .u64 r], 41)]) := Lib.hid (by rw [← hbx]; exact HB.out)
  rw [hbx]
  replace hbx := Lib.hid hbx
  clear HB
  have c_bx_0 := H0.out.cell (b := bx) (cs := #[.int .u64 v, .int .u64 o, .int .u64 r]) (t := 41) (by simp) 0 rfl
  have c_bx_1 := H0.out.cell (b := bx) (cs := #[.int .u64 v, .int .u64 o, .int .u64 r]) (t := 41) (by simp) 1 rfl
  have c_bx_2 := H0.out.cell (b := bx) (cs := #[.int .u64 v, .int .u64 o, .int .u64 r]) (t := 41) (by simp) 2 rfl
  go_wp2_with fail
  refine (up17 _ (G.out.below H0.out.2)).mono ?_
  rintro e' w1 ⟨rfl, hbn⟩
  have H1 := Lib.hid (H0.out.next hbn)
  clear c_bx_0 c_bx_1 c_bx_2
  clear hbn H0
  go_wp2_with fail
  refine (cA.out _).mono ?_
  rintro e' w2 ⟨rfl, hbn⟩
  have H2 := Lib.hid (H1.out.next hbn)
  clear hbn H1
  go_upto_region 3 with fail
  have hn := (H2.out).new #[.int .u64 0, .int .u64 0, .int .u64 0] 31
  generalize w2.alloc (.cells #[.int .u64 0, .int .u64 0, .int .u64 0] 31) = w3 at hn ⊢
  obtain ⟨ba, hba⟩ : ∃ z, w2.heap.size = z := ⟨_, rfl⟩
  rw [hba] at hn ⊢
  have H3 : Hid (HR w w3 [(ba, #[.int .u64 0, .int .u64 0, .int .u64 0], 31), (bx, #[.int .u64 v, .int .u64 o, .int .u64 r], 41)]) := Lib.hid hn
  replace hba := Lib.hid hba
  clear hn H2
  have c_ba_0 := H3.out.cell (b := ba) (cs := #[.int .u64 0, .int .u64 0, .int .u64 0]) (t := 31) (by simp) 0 rfl
  have c_ba_1 := H3.out.cell (b := ba) (cs := #[.int .u64 0, .int .u64 0, .int .u64 0]) (t := 31) (by simp) 1 rfl
  have c_ba_2 := H3.out.cell (b := ba) (cs := #[.int .u64 0, .int .u64 0, .int .u64 0]) (t := 31) (by simp) 2 rfl
  have c_bx_0 := H3.out.cell (b := bx) (cs := #[.int .u64 v, .int .u64 o, .int .u64 r]) (t := 41) (by simp) 0 rfl
  have c_bx_1 := H3.out.cell (b := bx) (cs := #[.int .u64 v, .int .u64 o, .int .u64 r]) (t := 41) (by simp) 1 rfl
  have c_bx_2 := H3.out.cell (b := bx) (cs := #[.int .u64 v, .int .u64 o, .int .u64 r]) (t := 41) (by simp) 2 rfl
  go_wp2_with fail
  refine (cZ.out _).mono ?_
  rintro e' w4 ⟨rfl, hbn⟩
  have H4 := Lib.hid (H3.out.next hbn)
  clear c_ba_0 c_ba_1 c_ba_2 c_bx_0 c_bx_1 c_bx_2
  clear hbn H3
  have c_ba_0 := H4.out.cell (b := ba) (cs := #[.int .u64 0, .int .u64 0, .int .u64 0]) (t := 31) (by simp) 0 rfl
  have c_ba_1 := H4.out.cell (b := ba) (cs := #[.int .u64 0, .int .u64 0, .int .u64 0]) (t := 31) (by simp) 1 rfl
  have c_ba_2 := H4.out.cell (b := ba) (cs := #[.int .u64 0, .int .u64 0, .int .u64 0]) (t := 31) (by simp) 2 rfl
  have c_bx_0 := H4.out.cell (b := bx) (cs := #[.int .u64 v, .int .u64 o, .int .u64 r]) (t := 41) (by simp) 0 rfl
  have c_bx_1 := H4.out.cell (b := bx) (cs := #[.int .u64 v, .int .u64 o, .int .u64 r]) (t := 41) (by simp) 1 rfl
  have c_bx_2 := H4.out.cell (b := bx) (cs := #[.int .u64 v, .int .u64 o, .int .u64 r]) (t := 41) (by simp) 2 rfl
  go_wp2_with fail
  go_ret
  exact ⟨by simp, bAlloc H4.out.2 (.cells #[.int .u64 0, .int .u64 0, .slice none 0 0] 44)⟩
set_option maxRecDepth 8000 in
set_option maxHeartbeats 4000000 in
theorem walkBackE (w : World) (G : Hid (RowsAt w)) (k v o r e : Int) (k0 : 0 ≤ k) (k1 : k ≤ 18446744073709551615) (v0 : 0 ≤ v) (v1 : v ≤ 18446744073709551615) (o0 : 0 ≤ o) (o1 : o ≤ 18446744073709551615) (r0 : 0 ≤ r) (r1 : r ≤ 18446744073709551615) (e0 : 0 ≤ e) (e1 : e ≤ 18446744073709551615) (h : 1 ≤ k ∧ k < 288230376287764481) (hs : ¬ (mayI v o r ∧ 1 ≤ e ∧ e < 72057593894066549)) :
    Calls Tryd.prog 6 #[.int .u64 k, ntV v o r, .int .u64 e] w fun e w' => e = .returned (.bool true) ∧ Below w.heap.size w w' := by
  have cA := Lib.hid (fun w => nAddrY k h.1 h.2 w)
  have ht1 : Obol.twoN k.toNat 2 < 288230376287764481 := Nat.lt_of_lt_of_eq (Obol.twoN_lt _ _) Obol.R_def
  obtain ⟨t, ht⟩ : ∃ t : Int, ((Obol.twoN k.toNat 2 : Nat) : Int) = t := ⟨_, rfl⟩
  rw [ht] at cA
  have t0 : 0 ≤ t := by omega
  have t1 : t < 288230376287764481 := by omega
  clear ht ht1 h
  replace hs := Lib.hid hs
  go_enter Tryd.func6, Tryd.ntmps6
  go_upto_region 1 with fail
  have HB := Lib.hid ((HR.refl w).new #[.int .u64 v, .int .u64 o, .int .u64 r] 41)
  generalize w.alloc (.cells #[.int .u64 v, .int .u64 o, .int .u64 r] 41) = w0 at HB ⊢
  obtain ⟨bx, hbx⟩ : ∃ z, w.heap.size = z := ⟨_, rfl⟩
  have H0 : Hid (HR w w0 [(bx, #[.int .u64 v, .int .u64 o, .int .u64 r], 41)]) := Lib.hid (by rw [← hbx]; exact HB.out)
  rw [hbx]
  replace hbx := Lib.hid hbx
  clear HB
  have c_bx_0 := H0.out.cell (b := bx) (cs := #[.int .u64 v, .int .u64 o, .int .u64 r]) (t := 41) (by simp) 0 rfl
  have c_bx_1 := H0.out.cell (b := bx) (cs := #[.int .u64 v, .int .u64 o, .int .u64 r]) (t := 41) (by simp) 1 rfl
  have c_bx_2 := H0.out.cell (b := bx) (cs := #[.int .u64 v, .int .u64 o, .int .u64 r]) (t := 41) (by simp) 2 rfl
  go_wp2_with fail
  refine (up17 _ (G.out.below H0.out.2)).mono ?_
  rintro e' w1 ⟨rfl, hbn⟩
  have H1 := Lib.hid (H0.out.next hbn)
  clear c_bx_0 c_bx_1 c_bx_2
  clear hbn H0
  go_wp2_with fail
  refine (cA.out _).mono ?_
  rintro e' w2 ⟨px, py, rfl, px0, py0, pxR, pyR, hpx, hpy, hbn⟩
  have H2 := Lib.hid (H1.out.next hbn)
  clear hbn H1
  have hp : (px.toNat, py.toNat) = Obol.smulN GP (Obol.scN k.toNat) := Prod.ext (by show px.toNat = _; omega) (by show py.toNat = _; omega)
  have hIp : inN (px.toNat, py.toNat) = true := by rw [hp]; exact gp_in _
  have hNp : (px.toNat, py.toNat) ≠ (0, 1) := by rw [hp]; exact gp_ne (scN_key _).1 (scN_key _).2
  clear hpx hpy cA
  have cZ := Lib.hid (fun W => nSealBad v o r t px py e v0 v1 r0 r1 px0 py0 e0 e1 (fun hh => hs.out ⟨hh.1, hh.2.2⟩) W)
  clear hp hIp hNp
  go_upto_region 3 with fail
  have hn := (H2.out).new #[.int .u64 t, .int .u64 px, .int .u64 py] 31
  generalize w2.alloc (.cells #[.int .u64 t, .int .u64 px, .int .u64 py] 31) = w3 at hn ⊢
  obtain ⟨ba, hba⟩ : ∃ z, w2.heap.size = z := ⟨_, rfl⟩
  rw [hba] at hn ⊢
  have H3 : Hid (HR w w3 [(ba, #[.int .u64 t, .int .u64 px, .int .u64 py], 31), (bx, #[.int .u64 v, .int .u64 o, .int .u64 r], 41)]) := Lib.hid hn
  replace hba := Lib.hid hba
  clear hn H2
  have c_ba_0 := H3.out.cell (b := ba) (cs := #[.int .u64 t, .int .u64 px, .int .u64 py]) (t := 31) (by simp) 0 rfl
  have c_ba_1 := H3.out.cell (b := ba) (cs := #[.int .u64 t, .int .u64 px, .int .u64 py]) (t := 31) (by simp) 1 rfl
  have c_ba_2 := H3.out.cell (b := ba) (cs := #[.int .u64 t, .int .u64 px, .int .u64 py]) (t := 31) (by simp) 2 rfl
  have c_bx_0 := H3.out.cell (b := bx) (cs := #[.int .u64 v, .int .u64 o, .int .u64 r]) (t := 41) (by simp) 0 rfl
  have c_bx_1 := H3.out.cell (b := bx) (cs := #[.int .u64 v, .int .u64 o, .int .u64 r]) (t := 41) (by simp) 1 rfl
  have c_bx_2 := H3.out.cell (b := bx) (cs := #[.int .u64 v, .int .u64 o, .int .u64 r]) (t := 41) (by simp) 2 rfl
  go_wp2_with fail
  refine (cZ.out _).mono ?_
  rintro e' w4 ⟨rfl, hbn⟩
  have H4 := Lib.hid (H3.out.next hbn)
  clear c_ba_0 c_ba_1 c_ba_2 c_bx_0 c_bx_1 c_bx_2
  clear hbn H3
  have c_ba_0 := H4.out.cell (b := ba) (cs := #[.int .u64 t, .int .u64 px, .int .u64 py]) (t := 31) (by simp) 0 rfl
  have c_ba_1 := H4.out.cell (b := ba) (cs := #[.int .u64 t, .int .u64 px, .int .u64 py]) (t := 31) (by simp) 1 rfl
  have c_ba_2 := H4.out.cell (b := ba) (cs := #[.int .u64 t, .int .u64 px, .int .u64 py]) (t := 31) (by simp) 2 rfl
  have c_bx_0 := H4.out.cell (b := bx) (cs := #[.int .u64 v, .int .u64 o, .int .u64 r]) (t := 41) (by simp) 0 rfl
  have c_bx_1 := H4.out.cell (b := bx) (cs := #[.int .u64 v, .int .u64 o, .int .u64 r]) (t := 41) (by simp) 1 rfl
  have c_bx_2 := H4.out.cell (b := bx) (cs := #[.int .u64 v, .int .u64 o, .int .u64 r]) (t := 41) (by simp) 2 rfl
  go_wp2_with fail
  go_ret
  exact ⟨by simp, bAlloc H4.out.2 (.cells #[.int .u64 0, .int .u64 0, .slice none 0 0] 44)⟩
set_option maxRecDepth 8000 in
set_option maxHeartbeats 4000000 in
theorem walkBackG (w : World) (G : Hid (RowsAt w)) (k v o r e : Int) (k0 : 0 ≤ k) (k1 : k ≤ 18446744073709551615) (v0 : 0 ≤ v) (v1 : v ≤ 18446744073709551615) (o0 : 0 ≤ o) (o1 : o ≤ 18446744073709551615) (r0 : 0 ≤ r) (r1 : r ≤ 18446744073709551615) (e0 : 0 ≤ e) (e1 : e ≤ 18446744073709551615) (h : 1 ≤ k ∧ k < 288230376287764481) (hs0 : mayI v o r ∧ 1 ≤ e ∧ e < 72057593894066549) :
    Calls Tryd.prog 6 #[.int .u64 k, ntV v o r, .int .u64 e] w fun e w' => e = .returned (.bool true) ∧ Below w.heap.size w w' := by
  have cA := Lib.hid (fun w => nAddrY k h.1 h.2 w)
  have ht1 : Obol.twoN k.toNat 2 < 288230376287764481 := Nat.lt_of_lt_of_eq (Obol.twoN_lt _ _) Obol.R_def
  have cB := nOpenBack k e v r h.1 h.2 hs0.2.1 hs0.2.2 v0 hs0.1.1 r0 hs0.1.2.2
  obtain ⟨t, ht⟩ : ∃ t : Int, ((Obol.twoN k.toNat 2 : Nat) : Int) = t := ⟨_, rfl⟩
  rw [ht] at cA cB
  have t0 : 0 ≤ t := by omega
  have t1 : t < 288230376287764481 := by omega
  clear ht ht1 h
  have hs := Lib.hid hs0
  clear hs0
  replace cB := Lib.hid cB
  go_enter Tryd.func6, Tryd.ntmps6
  go_upto_region 1 with fail
  have HB := Lib.hid ((HR.refl w).new #[.int .u64 v, .int .u64 o, .int .u64 r] 41)
  generalize w.alloc (.cells #[.int .u64 v, .int .u64 o, .int .u64 r] 41) = w0 at HB ⊢
  obtain ⟨bx, hbx⟩ : ∃ z, w.heap.size = z := ⟨_, rfl⟩
  have H0 : Hid (HR w w0 [(bx, #[.int .u64 v, .int .u64 o, .int .u64 r], 41)]) := Lib.hid (by rw [← hbx]; exact HB.out)
  rw [hbx]
  replace hbx := Lib.hid hbx
  clear HB
  have c_bx_0 := H0.out.cell (b := bx) (cs := #[.int .u64 v, .int .u64 o, .int .u64 r]) (t := 41) (by simp) 0 rfl
  have c_bx_1 := H0.out.cell (b := bx) (cs := #[.int .u64 v, .int .u64 o, .int .u64 r]) (t := 41) (by simp) 1 rfl
  have c_bx_2 := H0.out.cell (b := bx) (cs := #[.int .u64 v, .int .u64 o, .int .u64 r]) (t := 41) (by simp) 2 rfl
  go_wp2_with fail
  refine (up17 _ (G.out.below H0.out.2)).mono ?_
  rintro e' w1 ⟨rfl, hbn⟩
  have H1 := Lib.hid (H0.out.next hbn)
  clear c_bx_0 c_bx_1 c_bx_2
  clear hbn H0
  go_wp2_with fail
  refine (cA.out _).mono ?_
  rintro e' w2 ⟨px, py, rfl, px0, py0, pxR, pyR, hpx, hpy, hbn⟩
  have H2 := Lib.hid (H1.out.next hbn)
  clear hbn H1
  have hp : (px.toNat, py.toNat) = Obol.smulN GP (Obol.scN k.toNat) := Prod.ext (by show px.toNat = _; omega) (by show py.toNat = _; omega)
  have hIp : inN (px.toNat, py.toNat) = true := by rw [hp]; exact gp_in _
  have hNp : (px.toNat, py.toNat) ≠ (0, 1) := by rw [hp]; exact gp_ne (scN_key _).1 (scN_key _).2
  clear hpx hpy cA
  have cS := Lib.hid (fun W hG => nSeal v o r t px py e v0 v1 r0 r1 px0 py0 e0 e1 hs.out.1 (fun W => nPointT px py px0 py0 hIp hNp W) hs.out.2.1 hs.out.2.2 W hG)
  replace hp := Lib.hid hp
  clear hIp hNp
  go_upto_region 3 with fail
  have hn := (H2.out).new #[.int .u64 t, .int .u64 px, .int .u64 py] 31
  generalize w2.alloc (.cells #[.int .u64 t, .int .u64 px, .int .u64 py] 31) = w3 at hn ⊢
  obtain ⟨ba, hba⟩ : ∃ z, w2.heap.size = z := ⟨_, rfl⟩
  rw [hba] at hn ⊢
  have H3 : Hid (HR w w3 [(ba, #[.int .u64 t, .int .u64 px, .int .u64 py], 31), (bx, #[.int .u64 v, .int .u64 o, .int .u64 r], 41)]) := Lib.hid hn
  replace hba := Lib.hid hba
  clear hn H2
  have c_ba_0 := H3.out.cell (b := ba) (cs := #[.int .u64 t, .int .u64 px, .int .u64 py]) (t := 31) (by simp) 0 rfl
  have c_ba_1 := H3.out.cell (b := ba) (cs := #[.int .u64 t, .int .u64 px, .int .u64 py]) (t := 31) (by simp) 1 rfl
  have c_ba_2 := H3.out.cell (b := ba) (cs := #[.int .u64 t, .int .u64 px, .int .u64 py]) (t := 31) (by simp) 2 rfl
  have c_bx_0 := H3.out.cell (b := bx) (cs := #[.int .u64 v, .int .u64 o, .int .u64 r]) (t := 41) (by simp) 0 rfl
  have c_bx_1 := H3.out.cell (b := bx) (cs := #[.int .u64 v, .int .u64 o, .int .u64 r]) (t := 41) (by simp) 1 rfl
  have c_bx_2 := H3.out.cell (b := bx) (cs := #[.int .u64 v, .int .u64 o, .int .u64 r]) (t := 41) (by simp) 2 rfl
  go_wp2_with fail
  refine (cS.out _ (G.out.below H3.out.2)).mono ?_
  rintro e' w4 ⟨gs, cs, ex, ey, rfl, ex0, ey0, exR, eyR, hex, hey, hO, hb4⟩
  have hE : (ex.toNat, ey.toNat) = Obol.smulN GP e.toNat := Prod.ext (by show ex.toNat = _; omega) (by show ey.toNat = _; omega)
  have H4 := Lib.hid (H3.out.next hb4)
  have O4 := Lib.hid hO
  clear c_ba_0 c_ba_1 c_ba_2 c_bx_0 c_bx_1 c_bx_2
  clear hb4 H3 hO hex hey cS
  go_upto_region 4 with fail
  have O5 := Lib.hid (O4.out.below (bAlloc (Below.refl _ w4) (.cells #[.int .u64 ex, .int .u64 ey, .slice (some ⟨gs, 0, none⟩) 32 cs] 44)))
  clear O4
  have hn := (H4.out).new #[.int .u64 ex, .int .u64 ey, .slice (some ⟨gs, 0, none⟩) 32 cs] 44
  generalize w4.alloc (.cells #[.int .u64 ex, .int .u64 ey, .slice (some ⟨gs, 0, none⟩) 32 cs] 44) = w5 at hn O5 ⊢
  obtain ⟨bs, hbs⟩ : ∃ z, w4.heap.size = z := ⟨_, rfl⟩
  rw [hbs] at hn ⊢
  have H5 : Hid (HR w w5 [(bs, #[.int .u64 ex, .int .u64 ey, .slice (some ⟨gs, 0, none⟩) 32 cs], 44), (ba, #[.int .u64 t, .int .u64 px, .int .u64 py], 31), (bx, #[.int .u64 v, .int .u64 o, .int .u64 r], 41)]) := Lib.hid hn
  replace hbs := Lib.hid hbs
  clear hn H4
  have cO := Lib.hid (cB.out px py ex ey ex0 ey0 hp.out hE gs cs w5 (G.out.below H5.out.2) (OwnB.sl O5.out).2)
  replace hE := Lib.hid hE
  clear cB O5
  have c_bs_0 := H5.out.cell (b := bs) (cs := #[.int .u64 ex, .int .u64 ey, .slice (some ⟨gs, 0, none⟩) 32 cs]) (t := 44) (by simp) 0 rfl
  have c_bs_1 := H5.out.cell (b := bs) (cs := #[.int .u64 ex, .int .u64 ey, .slice (some ⟨gs, 0, none⟩) 32 cs]) (t := 44) (by simp) 1 rfl
  have c_bs_2 := H5.out.cell (b := bs) (cs := #[.int .u64 ex, .int .u64 ey, .slice (some ⟨gs, 0, none⟩) 32 cs]) (t := 44) (by simp) 2 rfl
  go_wp2_with fail
  refine cO.out.mono ?_
  rintro e' w6 ⟨rfl, hb6⟩
  have H6 := Lib.hid (H5.out.next hb6)
  clear c_bs_0 c_bs_1 c_bs_2
  clear hb6 H5 cO
  go_upto_region 7 with fail
  have hn := (H6.out).new #[.int .u64 v, .int .u64 t, .int .u64 r] 41
  generalize w6.alloc (.cells #[.int .u64 v, .int .u64 t, .int .u64 r] 41) = w7 at hn ⊢
  obtain ⟨bm, hbm⟩ : ∃ z, w6.heap.size = z := ⟨_, rfl⟩
  rw [hbm] at hn ⊢
  have H7 : Hid (HR w w7 [(bm, #[.int .u64 v, .int .u64 t, .int .u64 r], 41), (bs, #[.int .u64 ex, .int .u64 ey, .slice (some ⟨gs, 0, none⟩) 32 cs], 44), (ba, #[.int .u64 t, .int .u64 px, .int .u64 py], 31), (bx, #[.int .u64 v, .int .u64 o, .int .u64 r], 41)]) := Lib.hid hn
  replace hbm := Lib.hid hbm
  clear hn H6
  have c_bm_0 := H7.out.cell (b := bm) (cs := #[.int .u64 v, .int .u64 t, .int .u64 r]) (t := 41) (by simp) 0 rfl
  have c_bm_1 := H7.out.cell (b := bm) (cs := #[.int .u64 v, .int .u64 t, .int .u64 r]) (t := 41) (by simp) 1 rfl
  have c_bm_2 := H7.out.cell (b := bm) (cs := #[.int .u64 v, .int .u64 t, .int .u64 r]) (t := 41) (by simp) 2 rfl
  have c_ba_0 := H7.out.cell (b := ba) (cs := #[.int .u64 t, .int .u64 px, .int .u64 py]) (t := 31) (by simp) 0 rfl
  have c_ba_1 := H7.out.cell (b := ba) (cs := #[.int .u64 t, .int .u64 px, .int .u64 py]) (t := 31) (by simp) 1 rfl
  have c_ba_2 := H7.out.cell (b := ba) (cs := #[.int .u64 t, .int .u64 px, .int .u64 py]) (t := 31) (by simp) 2 rfl
  have c_bx_0 := H7.out.cell (b := bx) (cs := #[.int .u64 v, .int .u64 o, .int .u64 r]) (t := 41) (by simp) 0 rfl
  have c_bx_1 := H7.out.cell (b := bx) (cs := #[.int .u64 v, .int .u64 o, .int .u64 r]) (t := 41) (by simp) 1 rfl
  have c_bx_2 := H7.out.cell (b := bx) (cs := #[.int .u64 v, .int .u64 o, .int .u64 r]) (t := 41) (by simp) 2 rfl
  replace hs := Lib.hid hs.out
  by_cases hot : o = t
  · subst hot
    go_wp2_with fail
    go_ret
    exact ⟨by simp, H7.out.2⟩
  · go_wp2_with fail
    go_ret
    exact ⟨by simp, H7.out.2⟩
theorem walkBack (w : World) (hG : RowsAt w) (k v o r e : Int) (k0 : 0 ≤ k) (k1 : k ≤ 18446744073709551615) (v0 : 0 ≤ v) (v1 : v ≤ 18446744073709551615) (o0 : 0 ≤ o) (o1 : o ≤ 18446744073709551615) (r0 : 0 ≤ r) (r1 : r ≤ 18446744073709551615) (e0 : 0 ≤ e) (e1 : e ≤ 18446744073709551615) :
    Calls Tryd.prog 6 #[.int .u64 k, ntV v o r, .int .u64 e] w fun e w' => e = .returned (.bool true) ∧ Below w.heap.size w w' := by
  have G := Lib.hid hG
  by_cases h : 1 ≤ k ∧ k < 288230376287764481
  · by_cases hs : mayI v o r ∧ 1 ≤ e ∧ e < 72057593894066549
    · exact walkBackG w G k v o r e k0 k1 v0 v1 o0 o1 r0 r1 e0 e1 h hs
    · exact walkBackE w G k v o r e k0 k1 v0 v1 o0 o1 r0 r1 e0 e1 h hs
  · exact walkBackK w G k v o r e k0 k1 v0 v1 o0 o1 r0 r1 e0 e1 h

end Go.Proofs.YtallfmiikjmgaaaDoor
