import Derived.Test.YtkfimfjjmdjbdaaGreatDoorUv
import Derived.Test.YtkfimfjjmdjbdaaGreatDoorUw
import Derived.Test.YtkfimfjjmdjbdaaGreatDoorUx
set_option linter.unusedVariables false
set_option linter.unusedSimpArgs false
set_option linter.unusedSectionVars false
/- Walks: the law TxVerifies. -/
namespace Go.Proofs.YtkfimfjjmdjbdaaGreatDoor
open Go.RowKit
set_option linter.unusedVariables false
set_option linter.unusedSimpArgs false

set_option maxRecDepth 100000 in
set_option maxHeartbeats 8000000 in
theorem walkTVL (w : World) (t : TxD) (hl : ¬ (t.l0 < 200 ∧ t.l1 < 200)) : Calls Tryz.prog 4 #[txV t] w fun e w' => e = .returned (.bool true) ∧ Below w.heap.size w w' := by
  have hq : (decide (t.l0 < 200) && decide (t.l1 < 200)) = false := by
    by_cases h0 : t.l0 < 200
    · rw [decide_eq_true h0, decide_eq_false (fun h => hl ⟨h0, h⟩)]; rfl
    · rw [decide_eq_false h0]; rfl
  have cL := Lib.hid (lLight t)
  rw [hq] at cL
  clear hl hq
  go_enter Tryz.func4, Tryz.ntmps4
  have und := Tryz.underlying37
  go_upto_region 1 with fail
  have H1 := Lib.hid ((HR.refl w).new (txC t) 37)
  generalize w.alloc (.cells (txC t) 37) = w1 at H1 ⊢
  generalize hb1 : w.heap.size = b1 at H1 ⊢
  have hbs := Lib.hid hb1
  clear hb1
  go_wp2_with fail
  refine (up19 _).mono ?_
  rintro e w2 ⟨rfl, hb⟩
  have H2 := Lib.hid (H1.out.next hb)
  clear hb H1
  have RT := Lib.hid (H2.out.row (b := b1) (cs := txC t) (t := 37) (by simp))
  go_wp2_with (refine wpList_load_row rfl _ _ rfl b1 rfl 37 (txC t) (0, 0) _ RT.out und rfl sizTX ?_)
  refine (cL.out _).mono ?_
  rintro e w3 ⟨rfl, hb⟩
  have H3 := Lib.hid (H2.out.next hb)
  clear RT hb H2
  go_wp2_with fail
  go_ret
  exact ⟨by simp, H3.out.2⟩
set_option maxRecDepth 100000 in
set_option maxHeartbeats 8000000 in
theorem walkTVN (w : World) (t : TxD) (h : TxOk t) (hl : t.l0 < 200 ∧ t.l1 < 200) (hm : mayB t = false) : Calls Tryz.prog 4 #[txV t] w fun e w' => e = .returned (.bool true) ∧ Below w.heap.size w w' := by
  have hq : (decide (t.l0 < 200) && decide (t.l1 < 200)) = true := by rw [decide_eq_true hl.1, decide_eq_true hl.2]; rfl
  have cL := Lib.hid (lLight t)
  rw [hq] at cL
  have cM := Lib.hid (fun W => r19May t h W)
  rw [hm] at cM
  have cV := Lib.hid (fun W => tVerifyN t h hm W)
  clear hl hq h hm
  go_enter Tryz.func4, Tryz.ntmps4
  have und := Tryz.underlying37
  go_upto_region 1 with fail
  have H1 := Lib.hid ((HR.refl w).new (txC t) 37)
  generalize w.alloc (.cells (txC t) 37) = w1 at H1 ⊢
  generalize hb1 : w.heap.size = b1 at H1 ⊢
  have hbs := Lib.hid hb1
  clear hb1
  go_wp2_with fail
  refine (up19 _).mono ?_
  rintro e w2 ⟨rfl, hb⟩
  have H2 := Lib.hid (H1.out.next hb)
  clear hb H1
  have RT := Lib.hid (H2.out.row (b := b1) (cs := txC t) (t := 37) (by simp))
  go_wp2_with (refine wpList_load_row rfl _ _ rfl b1 rfl 37 (txC t) (0, 0) _ RT.out und rfl sizTX ?_)
  refine (cL.out _).mono ?_
  rintro e w3 ⟨rfl, hb⟩
  have H3 := Lib.hid (H2.out.next hb)
  clear RT hb H2
  have RT := Lib.hid (H3.out.row (b := b1) (cs := txC t) (t := 37) (by simp))
  go_wp2_with (refine wpList_load_row rfl _ _ rfl b1 rfl 37 (txC t) (0, 0) _ RT.out und rfl sizTX ?_)
  refine (cV.out _).mono ?_
  rintro e w4 ⟨rfl, hb⟩
  have H4 := Lib.hid (H3.out.next hb)
  clear RT hb H3
  have RT := Lib.hid (H4.out.row (b := b1) (cs := txC t) (t := 37) (by simp))
  go_wp2_with (refine wpList_load_row rfl _ _ rfl b1 rfl 37 (txC t) (0, 0) _ RT.out und rfl sizTX ?_)
  refine (cM.out _).mono ?_
  rintro e w5 ⟨rfl, hb⟩
  have H5 := Lib.hid (H4.out.next hb)
  clear RT hb H4
  have hE := fun W => eq19 W 1 1
  go_wp2_with fail
  go_ret
  exact ⟨by simp, H5.out.2⟩
set_option maxRecDepth 100000 in
set_option maxHeartbeats 8000000 in
theorem walkTV0 (w : World) (t : TxD) (L0 L1 : List Nat) (h : TxOk t) (hl : t.l0 < 200 ∧ t.l1 < 200) (hm : mayB t = true) (hi : (t.inn == 0) = true) (hB : Bods t L0 L1 w.heap.size w) : Calls Tryz.prog 4 #[txV t] w fun e w' => e = .returned (.bool true) ∧ Below w.heap.size w w' := by
  have hq : (decide (t.l0 < 200) && decide (t.l1 < 200)) = true := by rw [decide_eq_true hl.1, decide_eq_true hl.2]; rfl
  have cL := Lib.hid (lLight t)
  rw [hq] at cL
  have cM := Lib.hid (fun W => r19May t h W)
  rw [hm] at cM
  have cV := Lib.hid (fun W hb => tVerify0 t L0 L1 h hm hi W (hB.at hb))
  clear hl hq h hm hB
  go_enter Tryz.func4, Tryz.ntmps4
  have und := Tryz.underlying37
  go_upto_region 1 with fail
  have H1 := Lib.hid ((HR.refl w).new (txC t) 37)
  generalize w.alloc (.cells (txC t) 37) = w1 at H1 ⊢
  generalize hb1 : w.heap.size = b1 at H1 ⊢
  have hbs := Lib.hid hb1
  clear hb1
  go_wp2_with fail
  refine (up19 _).mono ?_
  rintro e w2 ⟨rfl, hb⟩
  have H2 := Lib.hid (H1.out.next hb)
  clear hb H1
  have RT := Lib.hid (H2.out.row (b := b1) (cs := txC t) (t := 37) (by simp))
  go_wp2_with (refine wpList_load_row rfl _ _ rfl b1 rfl 37 (txC t) (0, 0) _ RT.out und rfl sizTX ?_)
  refine (cL.out _).mono ?_
  rintro e w3 ⟨rfl, hb⟩
  have H3 := Lib.hid (H2.out.next hb)
  clear RT hb H2
  have RT := Lib.hid (H3.out.row (b := b1) (cs := txC t) (t := 37) (by simp))
  go_wp2_with (refine wpList_load_row rfl _ _ rfl b1 rfl 37 (txC t) (0, 0) _ RT.out und rfl sizTX ?_)
  refine (cV.out _ H3.out.2).mono ?_
  rintro e w4 ⟨rfl, hb⟩
  have H4 := Lib.hid (H3.out.next hb)
  clear RT hb H3
  have RT := Lib.hid (H4.out.row (b := b1) (cs := txC t) (t := 37) (by simp))
  go_wp2_with (refine wpList_load_row rfl _ _ rfl b1 rfl 37 (txC t) (0, 0) _ RT.out und rfl sizTX ?_)
  refine (cM.out _).mono ?_
  rintro e w5 ⟨rfl, hb⟩
  have H5 := Lib.hid (H4.out.next hb)
  clear RT hb H4
  have hN := fun W => nilN19 W
  have k1 := H5.out.cell (b := b1) (cs := txC t) (t := 37) (by simp) 1 rfl
  go_wp2_with fail
  go_ret
  exact ⟨by simp, H5.out.2⟩
set_option maxRecDepth 100000 in
set_option maxHeartbeats 8000000 in
theorem walkTVY (w : World) (hG : RowsAt w) (t : TxD) (L0 L1 : List Nat) (h : TxOk t) (hl : t.l0 < 200 ∧ t.l1 < 200) (hm : mayB t = true) (hi : (t.inn == 0) = false) (hB : Bods t L0 L1 w.heap.size w) (E : Value) (k : Int) (hC : ∀ W : World, Calls Tryz.prog 16 #[E] W fun e w' => e = .returned (.int .i64 k) ∧ Below W.heap.size W w') (hV : ∀ (W : World) (a : Option Addr) (c : Nat), RowsAt W → SlI W.heap.size W a c (bodL t L0 L1) → Calls Tryz.prog 14 #[edV t.fx t.fy, .slice a (bodL t L0 L1).length c, .agg #[.int .u64 t.gx, .int .u64 t.gy, .int .u64 t.gz]] W fun e w' => e = .returned E ∧ Below W.heap.size W w') : Calls Tryz.prog 4 #[txV t] w fun e w' => e = .returned (.bool true) ∧ Below w.heap.size w w' := by
  have hq : (decide (t.l0 < 200) && decide (t.l1 < 200)) = true := by rw [decide_eq_true hl.1, decide_eq_true hl.2]; rfl
  have cL := Lib.hid (lLight t)
  rw [hq] at cL
  have cM := Lib.hid (fun W => r19May t h W)
  rw [hm] at cM
  have cV := Lib.hid (fun W hw hb => tVerifyY t L0 L1 h hm hi E hV W hw (hB.at hb))
  have cRB := Lib.hid (fun W hb => r19Body t L0 L1 h (MayI.of hm) W (hB.at hb))
  have cS := Lib.hid hV
  have cC := Lib.hid hC
  have G := Lib.hid hG
  clear hl hq h hm hB hC hV hG
  go_enter Tryz.func4, Tryz.ntmps4
  have und := Tryz.underlying37
  go_upto_region 1 with fail
  have H1 := Lib.hid ((HR.refl w).new (txC t) 37)
  generalize w.alloc (.cells (txC t) 37) = w1 at H1 ⊢
  generalize hb1 : w.heap.size = b1 at H1 ⊢
  have hbs := Lib.hid hb1
  clear hb1
  go_wp2_with fail
  refine (up19 _).mono ?_
  rintro e w2 ⟨rfl, hb⟩
  have H2 := Lib.hid (H1.out.next hb)
  clear hb H1
  have RT := Lib.hid (H2.out.row (b := b1) (cs := txC t) (t := 37) (by simp))
  go_wp2_with (refine wpList_load_row rfl _ _ rfl b1 rfl 37 (txC t) (0, 0) _ RT.out und rfl sizTX ?_)
  refine (cL.out _).mono ?_
  rintro e w3 ⟨rfl, hb⟩
  have H3 := Lib.hid (H2.out.next hb)
  clear RT hb H2
  have RT := Lib.hid (H3.out.row (b := b1) (cs := txC t) (t := 37) (by simp))
  go_wp2_with (refine wpList_load_row rfl _ _ rfl b1 rfl 37 (txC t) (0, 0) _ RT.out und rfl sizTX ?_)
  refine (cV.out _ (G.out.below H3.out.2) H3.out.2).mono ?_
  rintro e w4 ⟨rfl, hb⟩
  have H4 := Lib.hid (H3.out.next hb)
  clear RT hb H3
  have RT := Lib.hid (H4.out.row (b := b1) (cs := txC t) (t := 37) (by simp))
  go_wp2_with (refine wpList_load_row rfl _ _ rfl b1 rfl 37 (txC t) (0, 0) _ RT.out und rfl sizTX ?_)
  refine (cM.out _).mono ?_
  rintro e w5 ⟨rfl, hb⟩
  have H5 := Lib.hid (H4.out.next hb)
  clear RT hb H4
  have k1 := H5.out.cell (b := b1) (cs := txC t) (t := 37) (by simp) 1 rfl
  go_upto_region 11 with fail
  clear k1
  refine wp_region_noPanic ?_
  refine wp_region_held_drew (S := fun wq => wq.cell? ⟨b1, 3, none⟩ = some (.int .u64 t.fx) ∧ wq.cell? ⟨b1, 4, none⟩ = some (.int .u64 t.fy) ∧ wq.cell? ⟨b1, 29, none⟩ = some (.int .u64 t.gx) ∧ wq.cell? ⟨b1, 30, none⟩ = some (.int .u64 t.gy) ∧ wq.cell? ⟨b1, 31, none⟩ = some (.int .u64 t.gz) ∧ HR w wq [(b1, txC t, 37)]) (by kernel_rfl) ?_ (fun hHeld => ?_)
  · exact ⟨HR.cell (HR.drew H5.out) (b := b1) (cs := txC t) (t := 37) (by simp) 3 rfl, HR.cell (HR.drew H5.out) (b := b1) (cs := txC t) (t := 37) (by simp) 4 rfl, HR.cell (HR.drew H5.out) (b := b1) (cs := txC t) (t := 37) (by simp) 29 rfl, HR.cell (HR.drew H5.out) (b := b1) (cs := txC t) (t := 37) (by simp) 30 rfl, HR.cell (HR.drew H5.out) (b := b1) (cs := txC t) (t := 37) (by simp) 31 rfl, HR.drew H5.out⟩
  refine tk 0 hHeld ?_; refine tk 1 hHeld ?_
  refine takeH 2 (fun _ _ _ _ _ h => h) (by kernel_rfl) hHeld rfl (by kernel_rfl) (by rfl) (v := .agg (txC t)) ?_ ?_
  · intro wz hz
    exact exec_load 37 _ rfl b1 rfl 37 (txC t) (0, 0) _ (hz.2.2.2.2.2.row (b := b1) (cs := txC t) (t := 37) (by simp)) und rfl sizTX
  try simp only [Act.put, List.setIfInBounds_toArray, List.set_cons_zero, List.set_cons_succ]
  refine tk 4 hHeld ?_; refine tk 5 hHeld ?_
  refine stepH 3 (by kernel_rfl) rfl (by rfl) (fun K hK => ?_)
  go_simp
  refine (cRB.out _ (hHeld.2.2.2.2.2.2)).mono ?_
  rintro e wc1 ⟨g6, c6, rfl, hO6, hbc1⟩
  refine hK.out _ _ ?_ (fun hHeld => ?_)
  · exact ⟨HR.cell (hHeld.2.2.2.2.2.next hbc1) (b := b1) (cs := txC t) (t := 37) (by simp) 3 rfl, HR.cell (hHeld.2.2.2.2.2.next hbc1) (b := b1) (cs := txC t) (t := 37) (by simp) 4 rfl, HR.cell (hHeld.2.2.2.2.2.next hbc1) (b := b1) (cs := txC t) (t := 37) (by simp) 29 rfl, HR.cell (hHeld.2.2.2.2.2.next hbc1) (b := b1) (cs := txC t) (t := 37) (by simp) 30 rfl, HR.cell (hHeld.2.2.2.2.2.next hbc1) (b := b1) (cs := txC t) (t := 37) (by simp) 31 rfl, hHeld.2.2.2.2.2.next hbc1⟩
  clear hK K
  try simp only [Act.put, List.setIfInBounds_toArray, List.set_cons_zero, List.set_cons_succ]
  refine stepH 6 (by kernel_rfl) rfl (by rfl) (fun K hK => ?_)
  go_simp
  refine (cS.out _ _ _ (G.out.below hHeld.2.2.2.2.2.2) (OwnB.sl9 hO6).2).mono ?_
  rintro e wc2 ⟨rfl, hbc2⟩
  refine hK.out _ _ ?_ (fun hHeld => ?_)
  · exact ⟨HR.cell (hHeld.2.2.2.2.2.next hbc2) (b := b1) (cs := txC t) (t := 37) (by simp) 3 rfl, HR.cell (hHeld.2.2.2.2.2.next hbc2) (b := b1) (cs := txC t) (t := 37) (by simp) 4 rfl, HR.cell (hHeld.2.2.2.2.2.next hbc2) (b := b1) (cs := txC t) (t := 37) (by simp) 29 rfl, HR.cell (hHeld.2.2.2.2.2.next hbc2) (b := b1) (cs := txC t) (t := 37) (by simp) 30 rfl, HR.cell (hHeld.2.2.2.2.2.next hbc2) (b := b1) (cs := txC t) (t := 37) (by simp) 31 rfl, hHeld.2.2.2.2.2.next hbc2⟩
  clear hK K
  try simp only [Act.put, List.setIfInBounds_toArray, List.set_cons_zero, List.set_cons_succ]
  refine tk 7 hHeld ?_
  refine wpAnyH_done (by kernel_rfl) (NoPanic.normal ?_) _
  have HL := Lib.hid hHeld.2.2.2.2.2
  clear hHeld
  go_wp2_with fail
  refine (cC.out _).mono ?_
  rintro e w7 ⟨rfl, hb⟩
  have H7 := Lib.hid (HL.out.next hb)
  clear hb HL
  go_wp2_with fail
  refine (cC.out _).mono ?_
  rintro e w8 ⟨rfl, hb⟩
  have H8 := Lib.hid (H7.out.next hb)
  clear hb H7
  go_wp2_with fail
  go_ret
  exact ⟨by simp, H8.out.2⟩
theorem walkTxVerifies (w : World) (hG : RowsAt w) (t : TxD) (h : TxOk t) (L0 : List Nat) (x0 : B8 t.l0 L0) (L1 : List Nat) (x1 : B8 t.l1 L1) (hB : Bods t L0 L1 w.heap.size w) : Calls Tryz.prog 4 #[txV t] w fun e w' => e = .returned (.bool true) ∧ Below w.heap.size w w' := by
  by_cases hl : t.l0 < 200 ∧ t.l1 < 200
  · cases hm : mayB t
    · exact walkTVN w t h hl hm
    · cases hi : (t.inn == 0)
      · obtain ⟨E, k, hC, hV⟩ := verAll t L0 L1 h hm hi x0.mem x1.mem (hB.n0.trans (MayI.of hm).l0) (hB.n1.trans (MayI.of hm).l1)
        exact walkTVY w hG t L0 L1 h hl hm hi hB E k hC hV
      · exact walkTV0 w t L0 L1 h hl hm hi hB
  · exact walkTVL w t hl

end Go.Proofs.YtkfimfjjmdjbdaaGreatDoor
