import Derived.Test.YtkfimfjjmdjbdaaUp
import Derived.Test.YtkfimfjjmdjbdaaUr
import Derived.Test.YtkfimfjjmdjbdaaUs
set_option linter.unusedVariables false
set_option linter.unusedSimpArgs false
set_option linter.unusedSectionVars false
/- Walks: the law TxWrites. -/
namespace Go.Proofs.Ytkfimfjjmdjbdaa
open Go.RowKit
set_option linter.unusedVariables false
set_option linter.unusedSimpArgs false

theorem own_drew9 {w : World} {base : Nat} {v : Value} {L : List Nat} (h : OwnB w base v L) : OwnB w.drew base v L := h
set_option maxRecDepth 100000 in
set_option maxHeartbeats 8000000 in
theorem walkTxWL (w : World) (t : TxD) (hl : ¬ (t.l0 < 200 ∧ t.l1 < 200)) : Calls Try.prog 3 #[txV t] w fun e w' => e = .returned (.bool true) ∧ Below w.heap.size w w' := by
  have hq : (decide (t.l0 < 200) && decide (t.l1 < 200)) = false := by
    by_cases h0 : t.l0 < 200
    · rw [decide_eq_true h0, decide_eq_false (fun h => hl ⟨h0, h⟩)]; rfl
    · rw [decide_eq_false h0]; rfl
  have cL := Lib.hid (lLight t)
  rw [hq] at cL
  clear hl hq
  go_enter Try.func3, Try.ntmps3
  have und := Try.underlying37
  go_upto_region 1 with fail
  have H1 := Lib.hid ((HR.refl w).new (txC t) 37)
  generalize w.alloc (.cells (txC t) 37) = w1 at H1 ⊢
  generalize hb1 : w.heap.size = b1 at H1 ⊢
  have hbs := Lib.hid hb1
  clear hb1
  go_wp2_with fail
  refine (up19 _).mono ?_
  rintro e w2 ⟨rfl, hb⟩
  have H2 := Lib.hid (H1.out.next hb)
  clear hb H1
  have RT := Lib.hid (H2.out.row (b := b1) (cs := txC t) (t := 37) (by simp))
  go_wp2_with (refine wpList_load_row rfl _ _ rfl b1 rfl 37 (txC t) (0, 0) _ RT.out und rfl sizTX ?_)
  refine (cL.out _).mono ?_
  rintro e w3 ⟨rfl, hb⟩
  have H3 := Lib.hid (H2.out.next hb)
  clear RT hb H2
  go_wp2_with fail
  go_ret
  exact ⟨by simp, H3.out.2⟩
set_option maxRecDepth 100000 in
set_option maxHeartbeats 8000000 in
theorem walkTxWN (w : World) (t : TxD) (h : TxOk t) (hl : t.l0 < 200 ∧ t.l1 < 200) (hm : mayB t = false) : Calls Try.prog 3 #[txV t] w fun e w' => e = .returned (.bool true) ∧ Below w.heap.size w w' := by
  have hq : (decide (t.l0 < 200) && decide (t.l1 < 200)) = true := by rw [decide_eq_true hl.1, decide_eq_true hl.2]; rfl
  have cL := Lib.hid (lLight t)
  rw [hq] at cL
  have cK := Lib.hid (fun W => tCheck t h W)
  have cM := Lib.hid (fun W => r19May t h W)
  rw [hm] at cK cM
  have cW := Lib.hid (fun W => tWriteN t h hm W)
  have cB := Lib.hid (fun W => tBodyN t h hm W)
  clear hl hq h hm
  go_enter Try.func3, Try.ntmps3
  have und := Try.underlying37
  go_upto_region 1 with fail
  have H1 := Lib.hid ((HR.refl w).new (txC t) 37)
  generalize w.alloc (.cells (txC t) 37) = w1 at H1 ⊢
  generalize hb1 : w.heap.size = b1 at H1 ⊢
  have hbs := Lib.hid hb1
  clear hb1
  go_wp2_with fail
  refine (up19 _).mono ?_
  rintro e w2 ⟨rfl, hb⟩
  have H2 := Lib.hid (H1.out.next hb)
  clear hb H1
  have RT := Lib.hid (H2.out.row (b := b1) (cs := txC t) (t := 37) (by simp))
  go_wp2_with (refine wpList_load_row rfl _ _ rfl b1 rfl 37 (txC t) (0, 0) _ RT.out und rfl sizTX ?_)
  refine (cL.out _).mono ?_
  rintro e w3 ⟨rfl, hb⟩
  have H3 := Lib.hid (H2.out.next hb)
  clear RT hb H2
  have RT := Lib.hid (H3.out.row (b := b1) (cs := txC t) (t := 37) (by simp))
  go_wp2_with (refine wpList_load_row rfl _ _ rfl b1 rfl 37 (txC t) (0, 0) _ RT.out und rfl sizTX ?_)
  refine (cK.out _).mono ?_
  rintro e w4 ⟨rfl, hb⟩
  have H4 := Lib.hid (H3.out.next hb)
  clear RT hb H3
  have RT := Lib.hid (H4.out.row (b := b1) (cs := txC t) (t := 37) (by simp))
  go_wp2_with (refine wpList_load_row rfl _ _ rfl b1 rfl 37 (txC t) (0, 0) _ RT.out und rfl sizTX ?_)
  refine (cW.out _).mono ?_
  rintro e w5 ⟨rfl, hb⟩
  have H5 := Lib.hid (H4.out.next hb)
  clear RT hb H4
  have RT := Lib.hid (H5.out.row (b := b1) (cs := txC t) (t := 37) (by simp))
  go_wp2_with (refine wpList_load_row rfl _ _ rfl b1 rfl 37 (txC t) (0, 0) _ RT.out und rfl sizTX ?_)
  refine (cB.out _).mono ?_
  rintro e w6 ⟨rfl, hb⟩
  have H6 := Lib.hid (H5.out.next hb)
  clear RT hb H5
  have RT := Lib.hid (H6.out.row (b := b1) (cs := txC t) (t := 37) (by simp))
  go_wp2_with (refine wpList_load_row rfl _ _ rfl b1 rfl 37 (txC t) (0, 0) _ RT.out und rfl sizTX ?_)
  refine (cM.out _).mono ?_
  rintro e w7 ⟨rfl, hb⟩
  have H7 := Lib.hid (H6.out.next hb)
  clear RT hb H6
  have hE := fun W => eq19 W 1 1
  go_wp2_with fail
  go_ret
  exact ⟨by simp, H7.out.2⟩
set_option maxRecDepth 100000 in
set_option maxHeartbeats 8000000 in
theorem walkTxWY (w : World) (t : TxD) (L0 L1 : List Nat) (h : TxOk t) (hl : t.l0 < 200 ∧ t.l1 < 200) (hm : mayB t = true) (hB : Bods t L0 L1 w.heap.size w) : Calls Try.prog 3 #[txV t] w fun e w' => e = .returned (.bool true) ∧ Below w.heap.size w w' := by
  have hq : (decide (t.l0 < 200) && decide (t.l1 < 200)) = true := by rw [decide_eq_true hl.1, decide_eq_true hl.2]; rfl
  have cL := Lib.hid (lLight t)
  rw [hq] at cL
  have cK := Lib.hid (fun W => tCheck t h W)
  have cM := Lib.hid (fun W => r19May t h W)
  rw [hm] at cK cM
  have cW := Lib.hid (fun W hb => tWrite t L0 L1 h hm W (hB.at hb))
  have cB := Lib.hid (fun W hb => tBody t L0 L1 h hm W (hB.at hb))
  have cRW := Lib.hid (fun W hb => r19Write t L0 L1 h (MayI.of hm) W (hB.at hb))
  have cRB := Lib.hid (fun W hb => r19Body t L0 L1 h (MayI.of hm) W (hB.at hb))
  clear hl hq h hm hB
  go_enter Try.func3, Try.ntmps3
  have und := Try.underlying37
  go_upto_region 1 with fail
  have H1 := Lib.hid ((HR.refl w).new (txC t) 37)
  generalize w.alloc (.cells (txC t) 37) = w1 at H1 ⊢
  generalize hb1 : w.heap.size = b1 at H1 ⊢
  have hbs := Lib.hid hb1
  clear hb1
  go_wp2_with fail
  refine (up19 _).mono ?_
  rintro e w2 ⟨rfl, hb⟩
  have H2 := Lib.hid (H1.out.next hb)
  clear hb H1
  have RT := Lib.hid (H2.out.row (b := b1) (cs := txC t) (t := 37) (by simp))
  go_wp2_with (refine wpList_load_row rfl _ _ rfl b1 rfl 37 (txC t) (0, 0) _ RT.out und rfl sizTX ?_)
  refine (cL.out _).mono ?_
  rintro e w3 ⟨rfl, hb⟩
  have H3 := Lib.hid (H2.out.next hb)
  clear RT hb H2
  have RT := Lib.hid (H3.out.row (b := b1) (cs := txC t) (t := 37) (by simp))
  go_wp2_with (refine wpList_load_row rfl _ _ rfl b1 rfl 37 (txC t) (0, 0) _ RT.out und rfl sizTX ?_)
  refine (cK.out _).mono ?_
  rintro e w4 ⟨rfl, hb⟩
  have H4 := Lib.hid (H3.out.next hb)
  clear RT hb H3
  have RT := Lib.hid (H4.out.row (b := b1) (cs := txC t) (t := 37) (by simp))
  go_wp2_with (refine wpList_load_row rfl _ _ rfl b1 rfl 37 (txC t) (0, 0) _ RT.out und rfl sizTX ?_)
  refine (cW.out _ H4.out.2).mono ?_
  rintro e w5 ⟨v, rfl, hO, hb⟩
  have H5 := Lib.hid (H4.out.next hb)
  obtain ⟨a5, c5, rfl⟩ := own_any9 hO
  have O5 := Lib.hid (hO.base (base' := w.heap.size) (by have := H4.out.2.size; omega))
  obtain ⟨n5, hn5⟩ : ∃ z, (wriL t L0 L1).length = z := ⟨_, rfl⟩
  rw [hn5] at O5 ⊢
  replace hn5 := Lib.hid hn5
  clear hO
  clear RT hb H4
  have RT := Lib.hid (H5.out.row (b := b1) (cs := txC t) (t := 37) (by simp))
  go_wp2_with (refine wpList_load_row rfl _ _ rfl b1 rfl 37 (txC t) (0, 0) _ RT.out und rfl sizTX ?_)
  refine (cB.out _ H5.out.2).mono ?_
  rintro e w6 ⟨v, rfl, hO, hb⟩
  have H6 := Lib.hid (H5.out.next hb)
  obtain ⟨a6, c6, rfl⟩ := own_any9 hO
  have O6 := Lib.hid (hO.base (base' := w.heap.size) (by have := H5.out.2.size; omega))
  obtain ⟨n6, hn6⟩ : ∃ z, (bodL t L0 L1).length = z := ⟨_, rfl⟩
  rw [hn6] at O6 ⊢
  replace hn6 := Lib.hid hn6
  clear hO
  have O5' := Lib.hid (O5.out.below hb)
  clear O5
  have O5 := O5'
  clear O5'
  clear RT hb H5
  have RT := Lib.hid (H6.out.row (b := b1) (cs := txC t) (t := 37) (by simp))
  go_wp2_with (refine wpList_load_row rfl _ _ rfl b1 rfl 37 (txC t) (0, 0) _ RT.out und rfl sizTX ?_)
  refine (cM.out _).mono ?_
  rintro e w7 ⟨rfl, hb⟩
  have H7 := Lib.hid (H6.out.next hb)
  have O5' := Lib.hid (O5.out.below hb)
  clear O5
  have O5 := O5'
  clear O5'
  have O6' := Lib.hid (O6.out.below hb)
  clear O6
  have O6 := O6'
  clear O6'
  clear RT hb H6
  go_upto_region 11 with fail
  have nn := fun W => nilN19 W
  refine wp_region_noPanic ?_
  refine wp_region_held_drew (S := fun wq => (convert 26 9 (.slice a5 n5 c5)).run Try.prog wq = .ok (.string (strB (wriL t L0 L1))) wq ∧ (convert 26 9 (.slice a6 n6 c6)).run Try.prog wq = .ok (.string (strB (bodL t L0 L1))) wq ∧ OwnB wq w.heap.size (.slice a5 n5 c5) (wriL t L0 L1) ∧ OwnB wq w.heap.size (.slice a6 n6 c6) (bodL t L0 L1) ∧ HR w wq [(b1, txC t, 37)]) (by kernel_rfl) ?_ (fun hHeld => ?_)
  · exact ⟨own_conv9 (own_drew9 O5.out), own_conv9 (own_drew9 O6.out), own_drew9 O5.out, own_drew9 O6.out, HR.drew H7.out⟩
  refine tk 0 hHeld ?_; refine tk 1 hHeld ?_; refine tk 2 hHeld ?_; refine tk 3 hHeld ?_; refine tk 4 hHeld ?_; refine tk 5 hHeld ?_; refine tk 6 hHeld ?_; refine tk 7 hHeld ?_; refine tk 8 hHeld ?_; refine tk 9 hHeld ?_; refine tk 10 hHeld ?_; refine tk 11 hHeld ?_; refine tk 12 hHeld ?_; refine tk 13 hHeld ?_; refine tk 14 hHeld ?_; refine tk 15 hHeld ?_
  refine takeH 16 (fun _ _ _ _ _ h => h) (by kernel_rfl) hHeld rfl (by kernel_rfl) (by rfl) (v := .agg (txC t)) ?_ ?_
  · intro wz hz
    exact exec_load 37 _ rfl b1 rfl 37 (txC t) (0, 0) _ (hz.2.2.2.2.row (b := b1) (cs := txC t) (t := 37) (by simp)) und rfl sizTX
  try simp only [Act.put, List.setIfInBounds_toArray, List.set_cons_zero, List.set_cons_succ]
  refine stepH 17 (by kernel_rfl) rfl (by rfl) (fun K hK => ?_)
  go_simp
  refine (cRW.out _ (hHeld.2.2.2.2.2)).mono ?_
  rintro e wc1 ⟨g8, c8, rfl, hO8, hbc1⟩
  have z8 := own_conv9 hO8
  refine hK.out _ _ ?_ (fun hHeld => ?_)
  · exact ⟨own_conv9 (hHeld.2.2.1.below hbc1), own_conv9 (hHeld.2.2.2.1.below hbc1), hHeld.2.2.1.below hbc1, hHeld.2.2.2.1.below hbc1, hHeld.2.2.2.2.next hbc1⟩
  clear hK K
  try simp only [Act.put, List.setIfInBounds_toArray, List.set_cons_zero, List.set_cons_succ]
  refine stepH 18 (by kernel_rfl) rfl (by rfl) (fun K hK => ?_)
  go_simp
  refine hK.out _ _ ?_ (fun hHeld => ?_)
  · exact hHeld
  clear hK K
  try simp only [Act.put, List.setIfInBounds_toArray, List.set_cons_zero, List.set_cons_succ]
  refine tk 19 hHeld ?_; refine tk 20 hHeld ?_; refine tk 21 hHeld ?_; refine tk 22 hHeld ?_; refine tk 23 hHeld ?_
  refine takeH 24 (fun _ _ _ _ _ h => h) (by kernel_rfl) hHeld rfl (by kernel_rfl) (by rfl) (v := .agg (txC t)) ?_ ?_
  · intro wz hz
    exact exec_load 37 _ rfl b1 rfl 37 (txC t) (0, 0) _ (hz.2.2.2.2.row (b := b1) (cs := txC t) (t := 37) (by simp)) und rfl sizTX
  try simp only [Act.put, List.setIfInBounds_toArray, List.set_cons_zero, List.set_cons_succ]
  refine stepH 25 (by kernel_rfl) rfl (by rfl) (fun K hK => ?_)
  go_simp
  refine (cRB.out _ (hHeld.2.2.2.2.2)).mono ?_
  rintro e wc2 ⟨g9, c9, rfl, hO9, hbc2⟩
  have z9 := own_conv9 hO9
  refine hK.out _ _ ?_ (fun hHeld => ?_)
  · exact ⟨own_conv9 (hHeld.2.2.1.below hbc2), own_conv9 (hHeld.2.2.2.1.below hbc2), hHeld.2.2.1.below hbc2, hHeld.2.2.2.1.below hbc2, hHeld.2.2.2.2.next hbc2⟩
  clear hK K
  try simp only [Act.put, List.setIfInBounds_toArray, List.set_cons_zero, List.set_cons_succ]
  refine stepH 26 (by kernel_rfl) rfl (by rfl) (fun K hK => ?_)
  go_simp
  refine hK.out _ _ ?_ (fun hHeld => ?_)
  · exact hHeld
  clear hK K
  try simp only [Act.put, List.setIfInBounds_toArray, List.set_cons_zero, List.set_cons_succ]
  refine tk 27 hHeld ?_; refine tk 28 hHeld ?_; refine tk 29 hHeld ?_
  refine wpAnyH_done (by kernel_rfl) (NoPanic.normal ?_) _
  have HL := Lib.hid hHeld.2.2.2.2
  clear hHeld
  go_wp2_with fail
  go_ret
  exact ⟨by simp, HL.out.2⟩
theorem walkTxWrites (w : World) (t : TxD) (h : TxOk t) (L0 : List Nat) (x0 : B8 t.l0 L0) (L1 : List Nat) (x1 : B8 t.l1 L1) (hB : Bods t L0 L1 w.heap.size w) : Calls Try.prog 3 #[txV t] w fun e w' => e = .returned (.bool true) ∧ Below w.heap.size w w' := by
  by_cases hl : t.l0 < 200 ∧ t.l1 < 200
  · cases hm : mayB t
    · exact walkTxWN w t h hl hm
    · exact walkTxWY w t L0 L1 h hl hm hB
  · exact walkTxWL w t hl

end Go.Proofs.Ytkfimfjjmdjbdaa
