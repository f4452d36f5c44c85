import Derived.Test.YtkfimfjjmdjbdaaGreatDoorUs
import Derived.Test.YtkfimfjjmdjbdaaGreatDoorUB
import Derived.Test.YtkfimfjjmdjbdaaGreatDoorUw
import Derived.Lib.IfaceNeq
set_option linter.unusedVariables false
set_option linter.unusedSimpArgs false
set_option linter.unusedSectionVars false
/- Walks: the law TxSigns. -/
namespace Go.Proofs.YtkfimfjjmdjbdaaGreatDoor
open Go.RowKit
set_option linter.unusedVariables false
set_option linter.unusedSimpArgs false

theorem ne19 (W : World) (a b : Int) : (binOp .neq 41 (.iface 50 (.int .i64 a)) (.iface 50 (.int .i64 b))).run Tryz.prog W = .ok (.bool (!(a == b))) W :=
 Lib.run_neq_iface_int W a b Tryz.underlying41 (by kernel_rfl) Tryz.underlying50
set_option maxRecDepth 100000 in
set_option maxHeartbeats 8000000 in
theorem walkTGL (w : World) (t : TxD) (hl : ¬ (t.l0 < 200 ∧ t.l1 < 200)) : Calls Tryz.prog 3 #[txV t] w fun e w' => e = .returned (.bool true) ∧ Below w.heap.size w w' := by
 have hq : (decide (t.l0 < 200) && decide (t.l1 < 200)) = false := by
  by_cases h0 : t.l0 < 200
  ·rw [decide_eq_true h0, decide_eq_false (fun h => hl ⟨h0, h⟩)]; rfl
  ·rw [decide_eq_false h0]; rfl
 have cL := Lib.hid (lLight t)
 rw [hq] at cL
 clear hl hq
 go_enter Tryz.func3, Tryz.ntmps3
 have und := Tryz.underlying37
 go_upto_region 1 with fail
 have H1 := Lib.hid ((HR.refl w).new (txC t) 37)
 generalize w.alloc (.cells (txC t) 37) = w1 at H1 ⊢
 generalize hb1 : w.heap.size = b1 at H1 ⊢
 have hbs := Lib.hid hb1
 clear hb1
 go_wp2_with fail
 refine (up19 _).mono ?_
 rintro e w2 ⟨rfl, hb⟩
 have H2 := Lib.hid (H1.out.next hb)
 clear hb H1
 have RT := Lib.hid (H2.out.row (b := b1) (cs := txC t) (t := 37) (by simp))
 go_wp2_with (refine wpList_load_row rfl _ _ rfl b1 rfl 37 (txC t) (0, 0) _ RT.out und rfl sizTX ?_)
 refine (cL.out _).mono ?_
 rintro e w3 ⟨rfl, hb⟩
 have H3 := Lib.hid (H2.out.next hb)
 clear RT hb H2
 go_wp2_with fail
 go_ret
 exact ⟨by simp, H3.out.2⟩
set_option maxRecDepth 100000 in
set_option maxHeartbeats 8000000 in
theorem walkTGN (w : World) (t : TxD) (h : TxOk t) (hl : t.l0 < 200 ∧ t.l1 < 200) (hm : mayB t = false) (hbm : mayB (bareD t) = false) : Calls Tryz.prog 3 #[txV t] w fun e w' => e = .returned (.bool true) ∧ Below w.heap.size w w' := by
 have hq : (decide (t.l0 < 200) && decide (t.l1 < 200)) = true := by rw [decide_eq_true hl.1, decide_eq_true hl.2]; rfl
 have cL := Lib.hid (lLight t)
 rw [hq] at cL
 have cM0 := fun W => r19May t h W
 rw [hm] at cM0
 have cM := Lib.hid cM0
 have cMb0 := fun W => r19May (bareD t) (ok_bare h) W
 rw [hbm] at cMb0
 have cMb := Lib.hid cMb0
 clear cM0 cMb0
 have cS := Lib.hid (fun W => tSignN t h hbm W)
 have cP := Lib.hid (fun W => tPublicsN t h hm W)
 clear hl hq h hm hbm
 go_enter Tryz.func3, Tryz.ntmps3
 have und := Tryz.underlying37
 go_upto_region 1 with fail
 have H1 := Lib.hid ((HR.refl w).new (txC t) 37)
 generalize w.alloc (.cells (txC t) 37) = w1 at H1 ⊢
 generalize hb1 : w.heap.size = b1 at H1 ⊢
 have hbs := Lib.hid hb1
 clear hb1
 go_wp2_with fail
 refine (up19 _).mono ?_
 rintro e w2 ⟨rfl, hb⟩
 have H2 := Lib.hid (H1.out.next hb)
 clear hb H1
 have RT := Lib.hid (H2.out.row (b := b1) (cs := txC t) (t := 37) (by simp))
 go_wp2_with (refine wpList_load_row rfl _ _ rfl b1 rfl 37 (txC t) (0, 0) _ RT.out und rfl sizTX ?_)
 refine (cL.out _).mono ?_
 rintro e w3 ⟨rfl, hb⟩
 have H3 := Lib.hid (H2.out.next hb)
 clear RT hb H2
 have RT := Lib.hid (H3.out.row (b := b1) (cs := txC t) (t := 37) (by simp))
 go_wp2_with (refine wpList_load_row rfl _ _ rfl b1 rfl 37 (txC t) (0, 0) _ RT.out und rfl sizTX ?_)
 refine (cS.out _).mono ?_
 rintro e w4 ⟨rfl, hb⟩
 have H4 := Lib.hid (H3.out.next hb)
 clear RT hb H3
 have RT := Lib.hid (H4.out.row (b := b1) (cs := txC t) (t := 37) (by simp))
 go_wp2_with (refine wpList_load_row rfl _ _ rfl b1 rfl 37 (txC t) (0, 0) _ RT.out und rfl sizTX ?_)
 refine (cP.out _).mono ?_
 rintro e w5 ⟨rfl, hb⟩
 have H5 := Lib.hid (H4.out.next hb)
 clear RT hb H4
 have RT := Lib.hid (H5.out.row (b := b1) (cs := txC t) (t := 37) (by simp))
 go_wp2_with (refine wpList_load_row rfl _ _ rfl b1 rfl 37 (txC t) (0, 0) _ RT.out und rfl sizTX ?_)
 refine (lBare t _).mono ?_
 rintro e w7 ⟨rfl, hb⟩
 have H7 := Lib.hid (H5.out.next hb)
 clear RT hb H5
 go_wp2_with fail
 refine (cMb.out _).mono ?_
 rintro e w8 ⟨rfl, hb⟩
 have H8 := Lib.hid (H7.out.next hb)
 clear hb H7
 have RT := Lib.hid (H8.out.row (b := b1) (cs := txC t) (t := 37) (by simp))
 go_wp2_with (refine wpList_load_row rfl _ _ rfl b1 rfl 37 (txC t) (0, 0) _ RT.out und rfl sizTX ?_)
 refine (cM.out _).mono ?_
 rintro e w9 ⟨rfl, hb⟩
 have H9 := Lib.hid (H8.out.next hb)
 clear RT hb H8
 have hE := fun W => eq19 W 1 1
 have hNe := fun W => ne19 W 1 1
 go_wp2_with fail
 go_ret
 exact ⟨by simp, H9.out.2⟩
set_option maxRecDepth 100000 in
set_option maxHeartbeats 8000000 in
theorem walkTGB (w : World) (hG : RowsAt w) (t : TxD) (L0 L1 : List Nat) (h : TxOk t) (hl : t.l0 < 200 ∧ t.l1 < 200) (hm : mayB t = false) (hbm : mayB (bareD t) = true) (x0 : ∀ x ∈ L0, x < 256) (x1 : ∀ x ∈ L1, x < 256) (hB : Bods t L0 L1 w.heap.size w) : Calls Tryz.prog 3 #[txV t] w fun e w' => e = .returned (.bool true) ∧ Below w.heap.size w w' := by
 have hq : (decide (t.l0 < 200) && decide (t.l1 < 200)) = true := by rw [decide_eq_true hl.1, decide_eq_true hl.2]; rfl
 have cL := Lib.hid (lLight t)
 rw [hq] at cL
 have cM0 := fun W => r19May t h W
 rw [hm] at cM0
 have cM := Lib.hid cM0
 have cMb0 := fun W => r19May (bareD t) (ok_bare h) W
 rw [hbm] at cMb0
 have cMb := Lib.hid cMb0
 clear cM0 cMb0
 have cS0 := fun W hw hb => tSignY t L0 L1 h hbm x0 x1 W hw (hB.at hb)
 have cR0 := fun W hb => rSign t L0 L1 h (head_bare hbm) x0 x1 W (hB.at hb)
 have cP := Lib.hid (fun W => tPublicsN t h hm W)
 obtain ⟨sn, hsn⟩ : ∃ z, sgN t L0 L1 = z := ⟨_, rfl⟩
 rw [hsn] at cS0 cR0
 have cS := Lib.hid cS0
 have cR := Lib.hid cR0
 have G := Lib.hid hG
 replace hsn := Lib.hid hsn
 clear hl hq h hm hbm x0 x1 hB hG cS0 cR0
 go_enter Tryz.func3, Tryz.ntmps3
 have und := Tryz.underlying37
 go_upto_region 1 with fail
 have H1 := Lib.hid ((HR.refl w).new (txC t) 37)
 generalize w.alloc (.cells (txC t) 37) = w1 at H1 ⊢
 generalize hb1 : w.heap.size = b1 at H1 ⊢
 have hbs := Lib.hid hb1
 clear hb1
 go_wp2_with fail
 refine (up19 _).mono ?_
 rintro e w2 ⟨rfl, hb⟩
 have H2 := Lib.hid (H1.out.next hb)
 clear hb H1
 have RT := Lib.hid (H2.out.row (b := b1) (cs := txC t) (t := 37) (by simp))
 go_wp2_with (refine wpList_load_row rfl _ _ rfl b1 rfl 37 (txC t) (0, 0) _ RT.out und rfl sizTX ?_)
 refine (cL.out _).mono ?_
 rintro e w3 ⟨rfl, hb⟩
 have H3 := Lib.hid (H2.out.next hb)
 clear RT hb H2
 have RT := Lib.hid (H3.out.row (b := b1) (cs := txC t) (t := 37) (by simp))
 go_wp2_with (refine wpList_load_row rfl _ _ rfl b1 rfl 37 (txC t) (0, 0) _ RT.out und rfl sizTX ?_)
 refine (cS.out _ (G.out.below H3.out.2) H3.out.2).mono ?_
 rintro e w4 ⟨rfl, hb⟩
 have H4 := Lib.hid (H3.out.next hb)
 clear RT hb H3
 have RT := Lib.hid (H4.out.row (b := b1) (cs := txC t) (t := 37) (by simp))
 go_wp2_with (refine wpList_load_row rfl _ _ rfl b1 rfl 37 (txC t) (0, 0) _ RT.out und rfl sizTX ?_)
 refine (cP.out _).mono ?_
 rintro e w5 ⟨rfl, hb⟩
 have H5 := Lib.hid (H4.out.next hb)
 clear RT hb H4
 have RT := Lib.hid (H5.out.row (b := b1) (cs := txC t) (t := 37) (by simp))
 go_wp2_with (refine wpList_load_row rfl _ _ rfl b1 rfl 37 (txC t) (0, 0) _ RT.out und rfl sizTX ?_)
 refine (lBare t _).mono ?_
 rintro e w7 ⟨rfl, hb⟩
 have H7 := Lib.hid (H5.out.next hb)
 clear RT hb H5
 go_wp2_with fail
 refine (cMb.out _).mono ?_
 rintro e w8 ⟨rfl, hb⟩
 have H8 := Lib.hid (H7.out.next hb)
 clear hb H7
 have RT := Lib.hid (H8.out.row (b := b1) (cs := txC t) (t := 37) (by simp))
 go_wp2_with (refine wpList_load_row rfl _ _ rfl b1 rfl 37 (txC t) (0, 0) _ RT.out und rfl sizTX ?_)
 refine (cM.out _).mono ?_
 rintro e w9 ⟨rfl, hb⟩
 have H9 := Lib.hid (H8.out.next hb)
 clear RT hb H8
 have hNe := fun W => ne19 W 1 1
 have hN := fun W => nilN19 W
 have RT := Lib.hid (H9.out.row (b := b1) (cs := txC t) (t := 37) (by simp))
 go_wp2_with (refine wpList_load_on rfl _ _ rfl b1 rfl 37 (txC t) (0, 0) _ RT.out und rfl sizTX ?_)
 refine (cR.out _ H9.out.2).mono ?_
 rintro e w20 ⟨rfl, hb⟩
 have H20 := Lib.hid (H9.out.next hb)
 clear hb H9 RT
 go_wp2_with fail
 go_ret
 exact ⟨by simp, H20.out.2⟩
set_option maxRecDepth 100000 in
set_option maxHeartbeats 8000000 in
theorem walkTGY (w : World) (hG : RowsAt w) (t : TxD) (L0 L1 : List Nat) (h : TxOk t) (hl : t.l0 < 200 ∧ t.l1 < 200) (hm : mayB t = true) (hbm : mayB (bareD t) = true) (x0 : ∀ x ∈ L0, x < 256) (x1 : ∀ x ∈ L1, x < 256) (hB : Bods t L0 L1 w.heap.size w) : Calls Tryz.prog 3 #[txV t] w fun e w' => e = .returned (.bool true) ∧ Below w.heap.size w w' := by
 have hq : (decide (t.l0 < 200) && decide (t.l1 < 200)) = true := by rw [decide_eq_true hl.1, decide_eq_true hl.2]; rfl
 have cL := Lib.hid (lLight t)
 rw [hq] at cL
 have cM0 := fun W => r19May t h W
 rw [hm] at cM0
 have cM := Lib.hid cM0
 have cMb0 := fun W => r19May (bareD t) (ok_bare h) W
 rw [hbm] at cMb0
 have cMb := Lib.hid cMb0
 clear cM0 cMb0
 have cS0 := fun W hw hb => tSignY t L0 L1 h hbm x0 x1 W hw (hB.at hb)
 have cR0 := fun W hb => rSign t L0 L1 h (head_bare hbm) x0 x1 W (hB.at hb)
 have cP0 := fun W hw hb => tPublicsY t L0 L1 h hm x0 x1 W hw (hB.at hb)
 obtain ⟨sn, hsn⟩ : ∃ z, sgN t L0 L1 = z := ⟨_, rfl⟩
 rw [hsn] at cS0 cR0 cP0
 have cS := Lib.hid cS0
 have cR := Lib.hid cR0
 have cP := Lib.hid cP0
 have G := Lib.hid hG
 have hok := Lib.hid h
 replace hsn := Lib.hid hsn
 clear hl hq h hm hbm x0 x1 hB hG cS0 cR0 cP0
 go_enter Tryz.func3, Tryz.ntmps3
 have und := Tryz.underlying37
 go_upto_region 1 with fail
 have H1 := Lib.hid ((HR.refl w).new (txC t) 37)
 generalize w.alloc (.cells (txC t) 37) = w1 at H1 ⊢
 generalize hb1 : w.heap.size = b1 at H1 ⊢
 have hbs := Lib.hid hb1
 clear hb1
 go_wp2_with fail
 refine (up19 _).mono ?_
 rintro e w2 ⟨rfl, hb⟩
 have H2 := Lib.hid (H1.out.next hb)
 clear hb H1
 have RT := Lib.hid (H2.out.row (b := b1) (cs := txC t) (t := 37) (by simp))
 go_wp2_with (refine wpList_load_row rfl _ _ rfl b1 rfl 37 (txC t) (0, 0) _ RT.out und rfl sizTX ?_)
 refine (cL.out _).mono ?_
 rintro e w3 ⟨rfl, hb⟩
 have H3 := Lib.hid (H2.out.next hb)
 clear RT hb H2
 have RT := Lib.hid (H3.out.row (b := b1) (cs := txC t) (t := 37) (by simp))
 go_wp2_with (refine wpList_load_row rfl _ _ rfl b1 rfl 37 (txC t) (0, 0) _ RT.out und rfl sizTX ?_)
 refine (cS.out _ (G.out.below H3.out.2) H3.out.2).mono ?_
 rintro e w4 ⟨rfl, hb⟩
 have H4 := Lib.hid (H3.out.next hb)
 clear RT hb H3
 have RT := Lib.hid (H4.out.row (b := b1) (cs := txC t) (t := 37) (by simp))
 go_wp2_with (refine wpList_load_row rfl _ _ rfl b1 rfl 37 (txC t) (0, 0) _ RT.out und rfl sizTX ?_)
 refine (cP.out _ (G.out.below H4.out.2) H4.out.2).mono ?_
 rintro e w5 ⟨gp, cp, rfl, hUL, hgl, hb⟩
 have H5 := Lib.hid (H4.out.next hb)
 have PU := Lib.hid (fun (W : World) (hb : Below w5.heap.size w5 W) => (show UL W gp 0 (pubL t sn) ∧ gp < W.heap.size from ⟨fun i hi => (hb.cell (p := ⟨gp, 0 + i, none⟩) hgl).trans (hUL i hi), Nat.lt_of_lt_of_le hgl hb.size⟩))
 have P5 := Lib.hid (HR.refl w5)
 clear hUL hgl
 clear RT hb H4
 have RT := Lib.hid (H5.out.row (b := b1) (cs := txC t) (t := 37) (by simp))
 go_wp2_with (refine wpList_load_row rfl _ _ rfl b1 rfl 37 (txC t) (0, 0) _ RT.out und rfl sizTX ?_)
 refine (lBare t _).mono ?_
 rintro e w7 ⟨rfl, hb⟩
 have H7 := Lib.hid (H5.out.next hb)
 have P7 := Lib.hid (P5.out.next hb)
 clear RT hb H5
 go_wp2_with fail
 refine (cMb.out _).mono ?_
 rintro e w8 ⟨rfl, hb⟩
 have H8 := Lib.hid (H7.out.next hb)
 have P8 := Lib.hid (P7.out.next hb)
 clear hb H7
 have RT := Lib.hid (H8.out.row (b := b1) (cs := txC t) (t := 37) (by simp))
 go_wp2_with (refine wpList_load_row rfl _ _ rfl b1 rfl 37 (txC t) (0, 0) _ RT.out und rfl sizTX ?_)
 refine (cM.out _).mono ?_
 rintro e w9 ⟨rfl, hb⟩
 have H9 := Lib.hid (H8.out.next hb)
 have P9 := Lib.hid (P8.out.next hb)
 clear RT hb H8
 go_upto_region 10 with fail
 refine wp_region_noPanic ?_
 refine wp_region_held_drew (S := fun wq => wq.cell? ⟨b1, 0, none⟩ = some (.int .u64 t.root) ∧ wq.cell? ⟨b1, 1, none⟩ = some (.int .u64 t.inn) ∧ wq.cell? ⟨b1, 2, none⟩ = some (.int .u64 t.out) ∧ wq.cell? ⟨b1, 8, none⟩ = some (.int .u64 t.e0) ∧ wq.cell? ⟨b1, 9, none⟩ = some (.int .u64 t.e1) ∧ wq.cell? ⟨b1, 10, none⟩ = some (.int .u64 t.m0) ∧ wq.cell? ⟨b1, 11, none⟩ = some (.int .u64 t.m1) ∧ wq.cell? ⟨b1, 18, none⟩ = some (.int .u64 t.a0) ∧ wq.cell? ⟨b1, 19, none⟩ = some (.int .u64 t.a1) ∧ HR w5 wq [] ∧ HR w wq [(b1, txC t, 37)]) (by kernel_rfl) ?_ (fun hHeld => ?_)
 ·exact ⟨kT b1 t (HR.drew H9.out) 0, kT b1 t (HR.drew H9.out) 1, kT b1 t (HR.drew H9.out) 2, kT b1 t (HR.drew H9.out) 8, kT b1 t (HR.drew H9.out) 9, kT b1 t (HR.drew H9.out) 10, kT b1 t (HR.drew H9.out) 11, kT b1 t (HR.drew H9.out) 18, kT b1 t (HR.drew H9.out) 19, HR.drew P9.out, HR.drew H9.out⟩
 refine tk 0 hHeld ?_; refine tk 1 hHeld ?_; refine tk 2 hHeld ?_; refine tk 3 hHeld ?_; refine tk 4 hHeld ?_; refine tk 5 hHeld ?_
 refine takeH 6 (fun _ _ _ _ _ h => h) (by kernel_rfl) hHeld rfl (by kernel_rfl) (by rfl) (v := .agg (txC t)) ?_ ?_
 ·intro wz hz
  exact exec_load 37 _ rfl b1 rfl 37 (txC t) (0, 0) _ (hz.2.2.2.2.2.2.2.2.2.2.row (b := b1) (cs := txC t) (t := 37) (by simp)) und rfl sizTX
 try simp only [Act.put, List.setIfInBounds_toArray, List.set_cons_zero, List.set_cons_succ]
 refine tk 8 hHeld ?_; refine tk 9 hHeld ?_; refine tk 10 hHeld ?_; refine tk 11 hHeld ?_; refine tk 12 hHeld ?_; refine tk 13 hHeld ?_; refine tk 14 hHeld ?_; refine tk 15 hHeld ?_; refine tk 16 hHeld ?_; refine tk 17 hHeld ?_; refine tk 18 hHeld ?_; refine tk 19 hHeld ?_; refine tk 20 hHeld ?_; refine tk 21 hHeld ?_; refine tk 22 hHeld ?_; refine tk 23 hHeld ?_; refine tk 24 hHeld ?_; refine tk 25 hHeld ?_
 refine st 7 fun K hK => ?_
 go_simp
 refine (cR.out _ (hHeld.2.2.2.2.2.2.2.2.2.2.2)).mono ?_
 rintro e wc1 ⟨rfl, hbc1⟩
 refine hK.out _ _ ?_ (fun hHeld => ?_)
 ·exact ⟨kT b1 t (hHeld.2.2.2.2.2.2.2.2.2.2.next hbc1) 0, kT b1 t (hHeld.2.2.2.2.2.2.2.2.2.2.next hbc1) 1, kT b1 t (hHeld.2.2.2.2.2.2.2.2.2.2.next hbc1) 2, kT b1 t (hHeld.2.2.2.2.2.2.2.2.2.2.next hbc1) 8, kT b1 t (hHeld.2.2.2.2.2.2.2.2.2.2.next hbc1) 9, kT b1 t (hHeld.2.2.2.2.2.2.2.2.2.2.next hbc1) 10, kT b1 t (hHeld.2.2.2.2.2.2.2.2.2.2.next hbc1) 11, kT b1 t (hHeld.2.2.2.2.2.2.2.2.2.2.next hbc1) 18, kT b1 t (hHeld.2.2.2.2.2.2.2.2.2.2.next hbc1) 19, hHeld.2.2.2.2.2.2.2.2.2.1.next hbc1, hHeld.2.2.2.2.2.2.2.2.2.2.next hbc1⟩
 clear hK K
 try simp only [Act.put, List.setIfInBounds_toArray, List.set_cons_zero, List.set_cons_succ]
 refine st 26 fun K hK => ?_
 go_simp
 have HN := HR.new hHeld.2.2.2.2.2.2.2.2.2.2 #[.int .u64 t.root, .int .u64 t.inn, .int .u64 t.out, .int .u64 (sn : Int), .int .u64 t.e0, .int .u64 t.e1, .int .u64 t.m0, .int .u64 t.m1, .int .u64 t.a0, .int .u64 t.a1] 22
 have PN := HR.alloc hHeld.2.2.2.2.2.2.2.2.2.1 (.cells #[.int .u64 t.root, .int .u64 t.inn, .int .u64 t.out, .int .u64 (sn : Int), .int .u64 t.e0, .int .u64 t.e1, .int .u64 t.m0, .int .u64 t.m1, .int .u64 t.a0, .int .u64 t.a1] 22)
 refine hK.out _ _ ?_ (fun hHeld => ?_)
 ·exact ⟨kT b1 t (HR.alloc hHeld.2.2.2.2.2.2.2.2.2.2 _) 0, kT b1 t (HR.alloc hHeld.2.2.2.2.2.2.2.2.2.2 _) 1, kT b1 t (HR.alloc hHeld.2.2.2.2.2.2.2.2.2.2 _) 2, kT b1 t (HR.alloc hHeld.2.2.2.2.2.2.2.2.2.2 _) 8, kT b1 t (HR.alloc hHeld.2.2.2.2.2.2.2.2.2.2 _) 9, kT b1 t (HR.alloc hHeld.2.2.2.2.2.2.2.2.2.2 _) 10, kT b1 t (HR.alloc hHeld.2.2.2.2.2.2.2.2.2.2 _) 11, kT b1 t (HR.alloc hHeld.2.2.2.2.2.2.2.2.2.2 _) 18, kT b1 t (HR.alloc hHeld.2.2.2.2.2.2.2.2.2.2 _) 19, HR.alloc hHeld.2.2.2.2.2.2.2.2.2.1 _, (HR.alloc hHeld.2.2.2.2.2.2.2.2.2.2 _)⟩
 clear hK K
 try simp only [Act.put, List.setIfInBounds_toArray, List.set_cons_zero, List.set_cons_succ]
 refine tk 27 hHeld ?_
 refine wpAnyH_done (by kernel_rfl) (NoPanic.normal ?_) _
 have HL : Hid (HR w _ [(b1, txC t, 37)]) := Lib.hid hHeld.2.2.2.2.2.2.2.2.2.2
 have hu := PU.out _ PN.2
 have hr10 := HN.row (b := wc1.heap.size) (cs := #[.int .u64 t.root, .int .u64 t.inn, .int .u64 t.out, .int .u64 (sn : Int), .int .u64 t.e0, .int .u64 t.e1, .int .u64 t.m0, .int .u64 t.m1, .int .u64 t.a0, .int .u64 t.a1]) (t := 22) (by simp)
 have cE := Lib.hid (lSame13 gp cp wc1.heap.size 10 10 (pubL t sn) rfl (by decide) _ hu.1 (pub_ul hok.out sn hr10) hu.2 hr10.lt)
 clear hHeld HN PN hu hr10
 have hNe := fun W => neN19 W
 go_wp2_with fail
 refine cE.out.mono ?_
 rintro e w12 ⟨rfl, hb⟩
 have H12 := Lib.hid (HL.out.next hb)
 clear hb HL cE
 have hN := fun W => nilN19 W
 have RT := Lib.hid (H12.out.row (b := b1) (cs := txC t) (t := 37) (by simp))
 go_wp2_with (refine wpList_load_on rfl _ _ rfl b1 rfl 37 (txC t) (0, 0) _ RT.out und rfl sizTX ?_)
 refine (cR.out _ H12.out.2).mono ?_
 rintro e w20 ⟨rfl, hb⟩
 have H20 := Lib.hid (H12.out.next hb)
 clear hb H12 RT
 go_wp2_with fail
 go_ret
 exact ⟨by simp, H20.out.2⟩
theorem walkTxSigns (w : World) (hG : RowsAt w) (t : TxD) (h : TxOk t) (L0 : List Nat) (x0 : B8 t.l0 L0) (L1 : List Nat) (x1 : B8 t.l1 L1) (hB : Bods t L0 L1 w.heap.size w) : Calls Tryz.prog 3 #[txV t] w fun e w' => e = .returned (.bool true) ∧ Below w.heap.size w w' := by
 by_cases hl : t.l0 < 200 ∧ t.l1 < 200
 ·cases hm : mayB t
  ·cases hbm : mayB (bareD t)
   ·exact walkTGN w t h hl hm hbm
   ·exact walkTGB w hG t L0 L1 h hl hm hbm x0.mem x1.mem hB
  ·exact walkTGY w hG t L0 L1 h hl hm (may_bare hm) x0.mem x1.mem hB
 ·exact walkTGL w t hl

end Go.Proofs.YtkfimfjjmdjbdaaGreatDoor
