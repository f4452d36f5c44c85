import Derived.Test.YtallfmiikjmgaaaDoorZWsum0
set_option linter.unusedVariables false
set_option linter.unusedSimpArgs false
/- Walks: package blake: the digest. -/
namespace Go.Proofs.YtallfmiikjmgaaaDoor
open Go.RowKit

set_option maxRecDepth 8000 in
set_option maxHeartbeats 2000000 in
theorem bSum (s : ByteArray) (hs : s.size ≤ 8) (ao : Option Addr) (len cap : Nat) (L : List Nat) (H : B8 len L) (w : World) (hS : SlI w.heap.size w ao cap L) (hG : RowsAt w) :
    Calls Tryd.prog 64 #[.string s, .slice ao len cap] w fun e w' => ∃ v, e = .returned (.tuple #[v, .nilIface]) ∧ OwnB w' w.heap.size v (Obol.sumL (strL s) L) ∧ Below w.heap.size w w' := by
  have hs' : (s.size : Int) ≤ 8 := by omega
  have R0 := Row.new w z8 103
  have hcp := copy_person (w.alloc (.cells z8 103)) w.heap.size s hs R0
  have hpl := Lib.hid (Obol.pad8_len (strL s))
  obtain ⟨p8, hp8⟩ : ∃ p, p = Obol.pad8 (strL s) := ⟨_, rfl⟩
  rw [← hp8] at hcp hpl
  have R1 := Lib.hid (setRow_row (cs' := u8s p8) R0)
  have B1 := Lib.hid (bSetRow (bAlloc (Below.refl w.heap.size w) (.cells z8 103)) (g := w.heap.size) (Nat.le_refl _) (u8s p8))
  replace hp8 := Lib.hid hp8
  clear R0
  go_enter Tryd.func64, Tryd.ntmps64
  go_wp2_with fail
  generalize (w.alloc (.cells z8 103)).setRow w.heap.size (u8s p8) = w1 at R1 B1 ⊢
  clear hcp
  have hx0 : bits .xor .u32 1779033703 16842784 = 1795745351 := by decide +kernel
  refine (bFirstL _).mono ?_
  rintro e w2 ⟨rfl, hb2⟩
  have R2 := Lib.hid (R1.out.below hb2 R1.out.lt)
  have B2 := Lib.hid (bThen B1.out hb2 B1.out.size)
  clear hb2 R1 B1
  go_wp2_with fail
  have R3 := Lib.hid (Row.new w2 (u32s (Obol.firstL.set 0 1795745351)) 92)
  change Code.wp _ _ _ _ (w2.alloc (.cells (u32s (Obol.firstL.set 0 1795745351)) 92))
  have RP := Lib.hid (R2.out.alloc (.cells (u32s (Obol.firstL.set 0 1795745351)) 92))
  have B3 := Lib.hid (bAlloc B2.out (.cells (u32s (Obol.firstL.set 0 1795745351)) 92))
  have hbp : w.heap.size < w2.heap.size := R2.out.lt
  generalize w2.alloc (.cells (u32s (Obol.firstL.set 0 1795745351)) 92) = w3 at R3 RP B3 ⊢
  generalize w2.heap.size = bh at R3 hbp ⊢
  clear R2 B2
  obtain ⟨bp, hbp0⟩ : ∃ b, w.heap.size = b := ⟨_, rfl⟩
  rw [hbp0] at RP hbp ⊢
  have W1 := (show Obol.W32 8 (Obol.firstL.set 0 1795745351) from first_w.set _ _ (by decide))
  have HP8 : B8 8 p8 := ⟨hpl.out, fun i => by
    rw [hp8.out]
    by_cases hi : i < 8
    · rw [Obol.pad8_get _ _ hi]
      exact strL_lt s i
    · rw [List.getD_eq_getElem?_getD, List.getElem?_eq_none (by rw [Obol.pad8_len]; omega)]
      decide⟩
  obtain ⟨x6, hx6⟩ : ∃ z : Int, ((Obol.wordAt p8 0 : Nat) : Int) = z := ⟨_, rfl⟩
  obtain ⟨x7, hx7⟩ : ∃ z : Int, ((Obol.wordAt p8 4 : Nat) : Int) = z := ⟨_, rfl⟩
  have cW6 := fun wq (R : Row wq bp (u8s p8) 103) => bWordAt bp 0 0 0 8 8 p8 8 HP8 rfl (by omega) (by omega) (by omega) wq R.bl
  have cW7 := fun wq (R : Row wq bp (u8s p8) 103) => bWordAt bp 0 4 4 4 4 p8 8 HP8 rfl (by omega) (by omega) (by omega) wq R.bl
  rw [hx6] at cW6
  rw [hx7] at cW7
  have l6 := Obol.wordAt_lt p8 HP8.lt 0
  have l7 := Obol.wordAt_lt p8 HP8.lt 4
  have y6 := xor_eq (p := 528734635) (P := 528734635) (q := x6) rfl hx6 (by decide) l6
  have y7 := xor_eq (p := 1541459225) (P := 1541459225) (q := x7) rfl hx7 (by decide) l7
  obtain ⟨z6, hz6⟩ : ∃ z : Int, bits .xor .u32 528734635 x6 = z := ⟨_, rfl⟩
  obtain ⟨z7, hz7⟩ : ∃ z : Int, bits .xor .u32 1541459225 x7 = z := ⟨_, rfl⟩
  rw [hz6] at y6
  rw [hz7] at y7
  replace cW6 := Lib.hid cW6
  replace cW7 := Lib.hid cW7
  have Y6 := Lib.hid y6
  have Y7 := Lib.hid y7
  clear y6 y7
  have x60 : 0 ≤ x6 := by omega
  have x70 : 0 ≤ x7 := by omega
  clear hx6 hx7
  have c6 : w3.cell? ⟨bh, 6, none⟩ = some (.int .u32 528734635) := R3.out.cell 6 rfl
  have f6 := R3.out.free 6
  go_cut [] (fun wc => Hid (Row wc bh (u32s ((Obol.firstL.set 0 1795745351).set 6 (528734635 ^^^ Obol.wordAt p8 0))) 92) ∧ Hid (Row wc bp (u8s p8) 103) ∧ Hid (Below w.heap.size w wc))
  case first =>
    go_region_with (go_at_call 89; refine (cW6.out _ (by repeat (first | exact RP.out | apply Row.drew | apply Row.drewN))).mono ?_; rintro e w' ⟨rfl, n, rfl⟩)
    all_goals (go_wp2_with fail; go_meet)
    all_goals exact ⟨Lib.hid (rowSet R3.out 6 _ Y6.out), Lib.hid (RP.out.other (by omega)), Lib.hid (bSet (bDrewN B3.out _) (by omega))⟩
  case' rest =>
    rename World => w4
    obtain ⟨R4, RP4, B4⟩ := hcut
    clear R3 RP B3 c6 f6
    have c7 : w4.cell? ⟨bh, 7, none⟩ = some (.int .u32 1541459225) := R4.out.cell 7 rfl
    have f7 := R4.out.free 7
    have hsl7 := fun W => slice_arr (P := Tryd.prog) 103 5 8 Tryd.underlying103 info8 bp 4 (by omega) W
  go_wp2_with fail
  go_cut [] (fun wc => Hid (Row wc bh (u32s (((Obol.firstL.set 0 1795745351).set 6 (528734635 ^^^ Obol.wordAt p8 0)).set 7 (1541459225 ^^^ Obol.wordAt p8 4))) 92) ∧ Hid (Below w.heap.size w wc))
  case first =>
    go_region_with (go_at_call 89; refine (cW7.out _ (by repeat (first | exact RP4.out | apply Row.drew | apply Row.drewN))).mono ?_; rintro e w' ⟨rfl, n, rfl⟩)
    all_goals (go_wp2_with fail; go_meet)
    all_goals exact ⟨Lib.hid (rowSet R4.out 7 _ Y7.out), Lib.hid (bSet (bDrewN B4.out _) (by omega))⟩
  case' rest =>
    rename World => w5
    obtain ⟨R5, B5⟩ := hcut
    have eI : ((Obol.firstL.set 0 1795745351).set 6 (528734635 ^^^ Obol.wordAt p8 0)).set 7 (1541459225 ^^^ Obol.wordAt p8 4) = Obol.stH (strL s) L 0 := by
      rw [hp8.out, Obol.word_pad _ _ (by omega), Obol.word_pad _ _ (by omega)]
      rfl
    rw [eI] at R5
    clear eI R4 RP4 B4 c7 f7 hsl7 Y6 Y7 hz6 hz7 cW6 cW7 hp8 HP8 l6 l7 x60 x70 W1 hx0
    obtain ⟨len0, hlen0⟩ : ∃ n, n = L.length := ⟨_, rfl⟩
    obtain rfl : len = len0 := by rw [hlen0]; exact H.len.symm
    have hcapL : len ≤ 9223372036854775807 := by have := hS.le; have := hS.cap; omega
    have HPP : Hid (∀ i, (strL s).getD i 0 < 256) := Lib.hid (strL_lt s)
    generalize hpp : strL s = pp at R5 HPP
    replace hpp := Lib.hid hpp
    have hS5 := Lib.hid hS
    have hG5 := Lib.hid hG
    have HL := Lib.hid H
    replace hlen0 := Lib.hid hlen0
    clear hS hG H hpl
    go_wp2_with fail
    go_loopw [1, 8, 9] (fun q1 q8 q9 wr => ∃ (j : Nat) (aj : Option Addr) (cj : Nat) (fl : Bool), q1 = .slice aj (L.drop (64 * j)).length cj ∧ q8 = .int .u64 ((min (64 * j) len : Nat) : Int) ∧ q9 = .bool fl ∧ Hid (BlkI len j fl) ∧ Hid (SlI w.heap.size w aj cj (L.drop (64 * j))) ∧ Hid (Row wr bh (u32s (Obol.stH pp L j)) 92) ∧ Hid (Below w.heap.size w wr)) (fun q1 _ q9 _ => slLen q1 + flag q9)
    case atStart =>
      refine ⟨0, ao, cap, false, ?_, by simp, rfl, Lib.hid ⟨by simp, Or.inl rfl⟩, ?_, R5, B5⟩
      · rw [Nat.mul_zero, List.drop_zero, ← hlen0.out]
      · rw [Nat.mul_zero, List.drop_zero]; exact hS5
    case round =>
      clear R5 B5 hS5
      obtain ⟨j, aj, cj, fl, rfl, rfl, rfl, HJ, HS, R, B⟩ := hrel
      cases fl
      · by_cases hR : 0 < (L.drop (64 * j)).length
        · obtain ⟨b, o, rfl, hbb, hbl0⟩ := HS.out.bl hR
          have hbl := hbl0.below B.out hbb
          have W8 := Lib.hid (stH_w HPP.out L j)
          obtain ⟨nI, hnI⟩ : ∃ z : Int, ((min 64 (L.drop (64 * j)).length : Nat) : Int) = z := ⟨_, rfl⟩
          obtain ⟨cI, hcI⟩ : ∃ z : Int, ((min (64 * j) len : Nat) : Int) = z := ⟨_, rfl⟩
          obtain ⟨c2, hc2⟩ : ∃ z : Int, ((min (64 * (j + 1)) len : Nat) : Int) = z := ⟨_, rfl⟩
          obtain ⟨m, hm⟩ : ∃ m, (L.drop (64 * j)).length - min 64 (L.drop (64 * j)).length = m := ⟨_, rfl⟩
          obtain ⟨f2, hf2⟩ : ∃ f, ((m : Int) == 0) = f := ⟨_, rfl⟩
          have hRl : (L.drop (64 * j)).length = len - 64 * j := by rw [List.length_drop, ← hlen0.out]
          have hsum : cI + nI = c2 := by omega
          have hn0 : 0 ≤ nI := by omega
          have hn1 : nI ≤ 64 := by omega
          have hc0 : 0 ≤ cI := by omega
          have hc1 : cI ≤ 9223372036854775807 := by omega
          have hd0 : 0 ≤ c2 := by omega
          have hd1 : c2 ≤ 9223372036854775807 := by omega
          have hff : f2 = decide (len ≤ 64 * (j + 1)) := by
            rw [← hf2, Bool.eq_iff_iff, beq_iff_eq, decide_eq_true_eq]
            omega
          have hcp := copy_block' (wr.alloc (.cells z64 105)) wr.heap.size (Row.new _ _ _) b o cj L j (hbl.below (bAlloc (Below.refl _ _) _) (hbl.lt hR))
          rw [hnI] at hcp
          have hsl := fun W => slice_rest (P := Tryd.prog) 42 5 Tryd.underlying42 info8 b o (L.drop (64 * j)).length cj (min 64 (L.drop (64 * j)).length) (Nat.min_le_right _ _) HS.out.le W
          rw [hnI, hm] at hsl
          obtain ⟨a2, ha2⟩ : ∃ a, (if cj = min 64 (L.drop (64 * j)).length then some (⟨b, o, none⟩ : Addr) else some ⟨b, o + min 64 (L.drop (64 * j)).length, none⟩) = a := ⟨_, rfl⟩
          obtain ⟨cc, hcc⟩ : ∃ c, cj - min 64 (L.drop (64 * j)).length = c := ⟨_, rfl⟩
          rw [ha2, hcc] at hsl
          have e64 : 64 * (j + 1) = 64 * j + 64 := by omega
          have hN2 : (L.drop (64 * (j + 1))).length = m := by rw [List.length_drop, ← hlen0.out]; omega
          have HJ2 : Hid (BlkI len (j + 1) f2) := Lib.hid ⟨by rw [hff]; simp, Or.inr (by omega)⟩
          have HS2 : Hid (SlI w.heap.size w a2 cc (L.drop (64 * (j + 1)))) := Lib.hid ⟨by rw [hN2, ← hcc]; have := HS.out.le; omega, by rw [← hcc]; have := HS.out.cap; omega, (fun h => by rw [← ha2] at h; split at h <;> cases h), (fun h => by
            rw [hN2] at h
            refine ⟨b, o + 64, ?_, hbb, fun q hq => ?_⟩
            · rw [← ha2, if_neg (by have := HS.out.le; omega), show min 64 (L.drop (64 * j)).length = 64 by omega]
            · rw [hN2] at hq
              have := hbl0 (64 + q) (by omega)
              rw [← Nat.add_assoc] at this
              rw [this, List.getD_eq_getElem?_getD, List.getD_eq_getElem?_getD, List.getElem?_drop, List.getElem?_drop, e64, Nat.add_assoc])⟩
          have hm2 : Hid (m < (L.drop (64 * j)).length) := Lib.hid (by omega)
          have eP : Obol.pressL (Obol.stH pp L j) (Obol.msgL (Obol.blockL L j) 0) c2.toNat f2 = Obol.stH pp L (j + 1) := by
            rw [Obol.msg_block, hff, show c2.toNat = min (64 * (j + 1)) len by omega, hlen0.out]
            rfl
          have cP := fun W hG => bPress (Obol.stH pp L j) (Obol.blockL L j) W8.out ⟨Obol.blockL_len L j, blockL_lt HL.out j⟩ c2 hd0 (by omega) f2 W hG
          rw [eP] at cP
          have hc2' := Lib.hid hc2
          have hN2' := Lib.hid hN2
          have hR2 := Lib.hid ((R.out.alloc (.cells z64 105)) |> fun r => setRow_keep (g := wr.heap.size) (cs' := u8s (Obol.blockL L j)) r (Nat.ne_of_lt R.out.lt))
          have hG2 := Lib.hid (setRow_row (cs' := u8s (Obol.blockL L j)) (Row.new wr z64 105))
          have hB2 := Lib.hid (bSetRow (bAlloc B.out (.cells z64 105)) (g := wr.heap.size) B.out.size (u8s (Obol.blockL L j)))
          have hBs := B.out.size
          have W9 := Lib.hid (stH_w HPP.out L (j + 1))
          have hbl64 : (u8s (Obol.blockL L j)).size = 64 := by rw [u8s_size, Obol.blockL_len]
          have hn8 : (u32s (Obol.stH pp L j)).size = 8 := by unfold u32s; simp [W8.out.len]
          have hn9 : (u32s (Obol.stH pp L (j + 1))).size = 8 := by unfold u32s; simp [W9.out.len]
          generalize Obol.stH pp L j = H8 at R cP hR2 hn8 ⊢
          generalize hH9 : Obol.stH pp L (j + 1) = H9 at cP hn9
          replace hH9 := Lib.hid hH9
          generalize Obol.blockL L j = BK at hcp cP hR2 hG2 hB2 hbl64
          have hu8 : Tryd.prog.underlying 92 = some (.array 8 91) := by kernel_rfl
          have hi8 : (Tryd.prog.info? 92).map (·.size) = some 8 := by kernel_rfl
          have hu64 : Tryd.prog.underlying 105 = some (.array 64 5) := by kernel_rfl
          have hi64 : (Tryd.prog.info? 105).map (·.size) = some 64 := by kernel_rfl
          have h19 : (u32s H9).toList.toArray.all (·.oneCell') = true := all_oneCell_toArray (by unfold u32s; simp; intro v _; rfl)
          replace cP := Lib.hid cP
          generalize (L.drop (64 * j)).length = RL at *
          rw [hcI]
          clear hff hm hN2 eP e64 hcc ha2 hcI hc2 hnI hbl hbl0 hR hRl HS HJ
          go_wp2_with (first
            | (refine wpList_load_mid rfl _ _ rfl bh 0 rfl (u32s H8).toList _ hR2.out.range hu8 rfl (by rw [hi8]; simp [hn8]) ?_)
            | (refine wpList_load_mid rfl _ _ rfl wr.heap.size 0 rfl (u8s BK).toList _ hG2.out.range hu64 rfl (by rw [hi64]; simp [hbl64]) ?_)
            | (go_at_call 90; refine (cP.out _ (hG5.out.below hB2.out)).mono ?_; rintro e w6 ⟨rfl, hb6⟩; have R6 := Lib.hid (hR2.out.below hb6 hR2.out.lt); have B6 := Lib.hid (bThen hB2.out hb6 hB2.out.size); have hth : w6.there bh 0 (u32s H9).toList.toArray.size := by (rw [Array.toArray_toList, hn9, ← hn8]; exact R6.out.there))
            | (refine wpList_store_mid rfl _ _ _ rfl bh 0 (u32s H9).toList.toArray rfl rfl (by assumption) (by rw [hi8]; simp [hn9]) h19 ?_))
          have R7 : Hid (Row (w6.setCells bh 0 (u32s H9).toList.toArray.toList) bh (u32s H9) 92) := Lib.hid (by rw [Array.toArray_toList]; exact R6.out.store (u32s H9) (by rw [hn9, hn8]))
          have B7 := Lib.hid (bSetMany (B := w.heap.size) (b := bh) (by omega) (u32s H9).toList.toArray.toList 0 _ B6.out)
          go_roundw
          case rel =>
            repeat apply Exists.intro
            exact ⟨⟨j + 1, a2, cc, f2, by rw [hN2'.out], by rw [hc2'.out], rfl, HJ2, HS2, by rw [hH9.out]; exact R7, B7⟩, rfl⟩
          case measure =>
            have h := hm2.out
            show m + flag (.bool f2) < RL + flag (.bool false)
            cases f2 <;> simp [flag] <;> omega
        · have hRl : (L.drop (64 * j)).length = len - 64 * j := by rw [List.length_drop, ← hlen0.out]
          have hj0 : j = 0 := by
            have h : ¬ (0 < j ∧ len ≤ 64 * j) := of_decide_eq_false HJ.out.1.symm
            omega
          subst hj0
          have hR0 : (L.drop (64 * 0)).length = 0 := by omega
          have hl0 : len = 0 := by omega
          have W8 := Lib.hid (stH_w HPP.out L 0)
          have W9 := Lib.hid (stH_w HPP.out L (0 + 1))
          obtain ⟨a2, ha2, hsl⟩ := slice_zero (P := Tryd.prog) 42 5 Tryd.underlying42 info8 aj cj
          have hcp := copy_nothing (wr.alloc (.cells z64 105)) wr.heap.size (Row.new _ _ _) aj cj (fun h => (HS.out.no h).2)
          have eB : Obol.blockL L 0 = zs 64 := block_nil L 0 (by rw [← hlen0.out]; omega)
          have eP : Obol.pressL (Obol.stH pp L 0) (Obol.msgL (zs 64) 0) (0 : Int).toNat true = Obol.stH pp L (0 + 1) := by
            have h := Obol.msg_block L 0
            rw [eB] at h
            rw [h]
            show _ = Obol.pressL (Obol.stH pp L 0) (Obol.msgL L (64 * 0)) (min (64 * (0 + 1)) L.length) (decide (L.length ≤ 64 * (0 + 1)))
            rw [← hlen0.out, hl0]
            rfl
          have cP := fun W hG => bPress (Obol.stH pp L 0) (zs 64) W8.out ⟨by simp, fun i => by have := (zs_w 64).lt i; simp [List.getD_eq_getElem?_getD, List.getElem?_replicate]; split <;> simp⟩ 0 (by omega) (by omega) true W hG
          rw [eP] at cP
          have hR2 := Lib.hid (R.out.alloc (.cells z64 105))
          have hG2 : Hid (Row (wr.alloc (.cells z64 105)) wr.heap.size (u8s (zs 64)) 105) := Lib.hid (Row.new wr z64 105)
          have hB2 := Lib.hid (bAlloc B.out (.cells z64 105))
          have hBs := B.out.size
          have hbl64 : (u8s (zs 64)).size = 64 := by rw [u8s_size]; simp
          have hn8 : (u32s (Obol.stH pp L 0)).size = 8 := by unfold u32s; simp [W8.out.len]
          have hn9 : (u32s (Obol.stH pp L (0 + 1))).size = 8 := by unfold u32s; simp [W9.out.len]
          have hc0 : ((min (64 * 0) len : Nat) : Int) = 0 := by omega
          have hJ2 : Hid (BlkI len (0 + 1) true) := Lib.hid ⟨by simp; omega, Or.inr (by omega)⟩
          have hS2 : Hid (SlI w.heap.size w a2 cj (L.drop (64 * (0 + 1)))) := Lib.hid ⟨by rw [List.length_drop, ← hlen0.out]; omega, HS.out.cap, (fun h => by
            have hq : (L.drop (64 * (0 + 1))).length = 0 := by rw [List.length_drop, ← hlen0.out]; omega
            exact ⟨hq, (HS.out.no (ha2 h)).2⟩), (fun h => by
            rw [List.length_drop, ← hlen0.out] at h
            omega)⟩
          rw [hR0, hc0]
          generalize Obol.stH pp L 0 = H8 at R cP hR2 hn8 ⊢
          generalize hH9 : Obol.stH pp L (0 + 1) = H9 at cP hn9
          replace hH9 := Lib.hid hH9
          generalize zs 64 = BK at cP hG2 hbl64
          have hu8 : Tryd.prog.underlying 92 = some (.array 8 91) := by kernel_rfl
          have hi8 : (Tryd.prog.info? 92).map (·.size) = some 8 := by kernel_rfl
          have hu64 : Tryd.prog.underlying 105 = some (.array 64 5) := by kernel_rfl
          have hi64 : (Tryd.prog.info? 105).map (·.size) = some 64 := by kernel_rfl
          have h19 : (u32s H9).toList.toArray.all (·.oneCell') = true := all_oneCell_toArray (by unfold u32s; simp; intro v _; rfl)
          replace cP := Lib.hid cP
          replace hl0 := Lib.hid hl0
          clear eP eB hRl hR HS HJ hR0 hc0
          go_wp2_with (first
            | (refine wpList_load_mid rfl _ _ rfl bh 0 rfl (u32s H8).toList _ hR2.out.range hu8 rfl (by rw [hi8]; simp [hn8]) ?_)
            | (refine wpList_load_mid rfl _ _ rfl wr.heap.size 0 rfl (u8s BK).toList _ hG2.out.range hu64 rfl (by rw [hi64]; simp [hbl64]) ?_)
            | (go_at_call 90; refine (cP.out _ (hG5.out.below hB2.out)).mono ?_; rintro e w6 ⟨rfl, hb6⟩; have R6 := Lib.hid (hR2.out.below hb6 hR2.out.lt); have B6 := Lib.hid (bThen hB2.out hb6 hB2.out.size); have hth : w6.there bh 0 (u32s H9).toList.toArray.size := by (rw [Array.toArray_toList, hn9, ← hn8]; exact R6.out.there))
            | (refine wpList_store_mid rfl _ _ _ rfl bh 0 (u32s H9).toList.toArray rfl rfl (by assumption) (by rw [hi8]; simp [hn9]) h19 ?_))
          have R7 : Hid (Row (w6.setCells bh 0 (u32s H9).toList.toArray.toList) bh (u32s H9) 92) := Lib.hid (by rw [Array.toArray_toList]; exact R6.out.store (u32s H9) (by rw [hn9, hn8]))
          have B7 := Lib.hid (bSetMany (B := w.heap.size) (b := bh) (by omega) (u32s H9).toList.toArray.toList 0 _ B6.out)
          go_roundw
          case rel =>
            repeat apply Exists.intro
            exact ⟨⟨0 + 1, a2, cj, true, by rw [List.length_drop, ← hlen0.out, hl0.out], by rw [hl0.out]; rfl, rfl, hJ2, hS2, by rw [hH9.out]; exact R7, B7⟩, rfl⟩
          case measure =>
            show 0 + flag (.bool true) < 0 + flag (.bool false)
            simp [flag]
      · obtain ⟨hj1, hj2⟩ := HJ.out
        have hj3 : 0 < j ∧ len ≤ 64 * j := of_decide_eq_true hj1.symm
        have hjn : Obol.nBlocks len = j := by
          unfold Obol.nBlocks
          split <;> omega
        have W8 := Lib.hid (stH_w HPP.out L j)
        have hF : Hid (Obol.sumL pp L = Obol.wordsB (Obol.stH pp L j)) := Lib.hid (by unfold Obol.sumL; rw [← hlen0.out, hjn])
        generalize Obol.stH pp L j = HF at R W8 hF
        have hu8 : Tryd.prog.underlying 92 = some (.array 8 91) := by kernel_rfl
        have hi8 : (Tryd.prog.info? 92).map (·.size) = some 8 := by kernel_rfl
        have hn8 : (u32s HF).size = 8 := by unfold u32s; simp [W8.out.len]
        clear hj1 hj2 hj3 hjn HJ HS
        go_wp2_with (refine wpList_load_mid rfl _ _ rfl bh 0 rfl (u32s HF).toList _ R.out.range hu8 rfl (by rw [hi8]; simp [hn8]) ?_)
        obtain ⟨ti, hti, htz, hts, htb⟩ := info_parts info8
        have hbpH := Lib.hid hbp0
        clear hbp0
        generalize (L.drop (64 * j)).length = RL at *
        go_loopw [12, 60] (fun q12 q60 wr => ∃ i : Nat, i ≤ 8 ∧ q60 = .int .i64 (i : Int) ∧ OwnB wr w.heap.size q12 (Obol.wordsB (HF.take i)) ∧ Below w.heap.size w wr) (fun _ q60 _ => (8 - intOf q60).toNat)
        case atStart => exact ⟨0, by omega, rfl, OwnB.nil _ _, B.out⟩
        case round =>
          clear R B
          obtain ⟨i, hi9, rfl, hO, hW⟩ := hrel
          have hsz := hW.size
          by_cases hi : i < 8
          · have hlen : (Obol.wordsB (HF.take i)).length = 4 * i := by rw [wordsB_len, List.length_take, W8.out.len]; omega
            obtain ⟨x, ex, x0, x1⟩ := word_at W8.out (i := (i : Int)) (by omega) (by omega)
            have hix := fun W => index_agg (P := Tryd.prog) 92 91 8 HF W8.out Tryd.underlying92 Tryd.underlying91 info32 (i := (i : Int)) (by omega) (by omega) W
            rw [ex] at hix
            have hi0 : (0 : Int) ≤ (i : Int) := by omega
            have hi8' : (i : Int) < 8 := by omega
            go_wp2_with (first
              | (at_builtin; refine wpList_append_own _ rfl _ _ 42 rfl w.heap.size 5 ti (.int .u8 0) 1 1 Tryd.underlying42 hti htz hts htb rfl (by decide) _ _ _ rfl (hO.alloc _) ⟨wr.heap.size, 0, none⟩ 4 4 [.int .u8 (x % 256), .int .u8 (x / 256 % 256), .int .u8 (x / 65536 % 256), .int .u8 (x / 16777216)] ?c0 rfl ?c1 ?c2 ?c3 ?c4 ?c5 ?_)
              | go_in)
            case c0 => rfl
            case c1 =>
              intro q u hq
              match q, hq with
              | 0, hq => simp at hq; subst hq; simp [Addr.add]
              | 1, hq => simp at hq; subst hq; simp [Addr.add]
              | 2, hq => simp at hq; subst hq; simp [Addr.add]
              | 3, hq => simp at hq; subst hq; simp [Addr.add]
            case c2 =>
              intro u hu
              simp at hu
              rcases hu with rfl | rfl | rfl | rfl <;> rfl
            case c3 => rw [hlen]; unfold maxLen; omega
            case c4 => rw [hlen]; omega
            case c5 => simp; omega
            · intro v' w1 hown' hgrow _
              have hrow := hO.lt
              have HO : OwnB w1 w.heap.size v' (Obol.wordsB (HF.take (i + 1))) := by
                have e := wordsB_take (l := HF) (i := i) (by rw [W8.out.len]; exact hi)
                have e5 : (Obol.wordsB (HF.take (i + 1))).length = 4 * i + 4 := by rw [wordsB_len, List.length_take, W8.out.len]; omega
                have eb : U8 (Obol.bytes4 (HF.getD i 0)) = [.int .u8 (x % 256), .int .u8 (x / 256 % 256), .int .u8 (x / 65536 % 256), .int .u8 (x / 16777216)] := by
                  have ex' : ((HF.getD i 0 : Nat) : Int) = x := by rw [← ex, Int.toNat_natCast]
                  generalize HF.getD i 0 = X at ex'
                  subst ex'
                  simp [U8, Obol.bytes4]
                  omega
                unfold OwnB
                rw [e5, e, U8, List.map_append]
                have e6 : List.map (fun (n : Nat) => Value.int .u8 (n : Int)) (Obol.bytes4 (HF.getD i 0)) = _ := eb
                rw [e6]
                exact hown'
              have HW : Below w.heap.size w w1 := (hW.alloc (by omega) _).grown hgrow (by simp; omega) (fun q hq => (hrow q hq).1)
              replace HO := Lib.hid HO
              replace HW := Lib.hid HW
              clear hown' hgrow hO hW hrow hlen hix ex
              go_wp2
              go_roundw
              case rel => exact ⟨i + 1, by omega, by simp, HO.out, HW.out⟩
              case measure => simp [intOf]; omega
          · obtain rfl : i = 8 := by omega
            have e8 : HF.take 8 = HF := List.take_of_length_le (by rw [W8.out.len]; decide)
            rw [e8, ← hF.out] at hO
            replace hO := Lib.hid hO
            replace hW := Lib.hid hW
            go_wp2_with fail
            go_ret2
            refine ⟨_, rfl, ?_, hW.out⟩
            rw [hpp.out]
            exact hO.out

end Go.Proofs.YtallfmiikjmgaaaDoor
