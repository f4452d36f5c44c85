import Derived.Test.YtallfmiikjmgaaaDoorZWrmk
import Derived.Test.YtallfmiikjmgaaaDoorZWcmk
set_option linter.unusedVariables false
set_option linter.unusedSimpArgs false
/- Walks: the reference of layer 6: the mark of data and a sealed text. -/
namespace Go.Proofs.YtallfmiikjmgaaaDoor
open Go.RowKit

set_option maxRecDepth 8000 in
set_option maxHeartbeats 8000000 in
theorem rBoth (bk ok ck bn on cn : Nat) (K N : List Nat) (HK : B8 32 K) (HN : B8 12 N) (vD vC : Value) (D C : List Nat) (w : World) (hbk : bk < w.heap.size) (hbn : bn < w.heap.size) (hBK : BL w bk ok K) (hBN : BL w bn on N) (hD : Seg w.heap.size w vD D) (hC : Seg w.heap.size w vC C) :
    Calls Tryd.prog 47 #[.slice (some ⟨bk, ok, none⟩) 32 ck, .slice (some ⟨bn, on, none⟩) 12 cn, vD, vC] w fun e w' => ∃ g, e = .returned (.slice (some ⟨g, 0, none⟩) 16 16) ∧ Row w' g (u8s (Obol.bothL K N D C)) 5 ∧ w.heap.size ≤ g ∧ Below w.heap.size w w' := by
  have cB := Lib.hid (fun W (h : Below w.heap.size w W) => rBlock bk ok ck bn on cn K N HK HN 0 (by omega) (by omega) W (Nat.lt_of_lt_of_le hbk h.size) (Nat.lt_of_lt_of_le hbn h.size) (hBK.below h hbk) (hBN.below h hbn))
  obtain ⟨aD, kD, rfl, hD1, hD2, hlD⟩ := hD
  obtain ⟨aC, kC, rfl, hC1, hC2, hlC⟩ := hC
  have cD := Lib.hid (rFull aD D.length kD D ⟨rfl, hD2⟩ (by omega) hD1.no w hD1.arg.2)
  have cC := Lib.hid (fun W (h : Below w.heap.size w W) => rFull aC C.length kC C ⟨rfl, hC2⟩ (by omega) hC1.no W (hC1.below h).arg.2)
  have hL := Lib.hid (fun n (h : n ≤ 1000000) W => rLength ((n : Nat) : Int) (by omega) (by omega) W)
  have hAl := Obol.allB_lt hD2 hC2
  have hfD := Obol.full_len D
  have hfC := Obol.full_len C
  have hpD : Obol.padN D.length < 16 := Nat.mod_lt _ (by decide)
  have hpC : Obol.padN C.length < 16 := Nat.mod_lt _ (by decide)
  replace hAl := Lib.hid hAl
  clear hBK hBN hbk hbn hD1 hC1 hD2 hC2
  go_enter Tryd.func47, Tryd.ntmps47
  go_wp2_with fail
  refine cD.out.mono ?_
  rintro e w1 ⟨g1, c1, n1, rfl, hO1, hn1, hb1⟩
  have O1 := Lib.hid hO1
  have B1 := Lib.hid hb1
  have hl1 := own_bl_len hO1
  have hn1b : n1 ≤ 1000015 := by omega
  replace hn1 := Lib.hid hn1
  clear hO1 hb1 cD
  go_wp2_with fail
  refine (cC.out _ B1.out).mono ?_
  rintro e w2 ⟨g2, c2, n2, rfl, hO2, hn2, hb2⟩
  have hl2 := own_bl_len hO2
  have bl2 := own_blz hO2 hl2
  have hn2b : n2 ≤ 1000015 := by omega
  replace hn2 := Lib.hid hn2
  have B2 := Lib.hid (bThen B1.out hb2 B1.out.size)
  obtain ⟨v3, w3, hap, hO3, hb3, -, hnil⟩ := append_ownB w2 w.heap.size _ (Obol.fullL D) (Obol.fullL C) (O1.out.below hb2) ⟨g2, 0, none⟩ n2 c2 hl2 (fun j hj => by
    rw [addP]; exact bl2 j hj) (by omega) B2.out.size
  obtain ⟨g3, c3, rfl⟩ := own_shape hO3 (fun h => by cases (hnil.1 h).1)
  have hl3 : (Obol.fullL D ++ Obol.fullL C).length ≤ 3000000 := by rw [List.length_append]; omega
  obtain ⟨A, hA⟩ : ∃ l, Obol.fullL D ++ Obol.fullL C = l := ⟨_, rfl⟩
  rw [hA] at hO3 hap hl3
  have O3 := Lib.hid hO3
  have B3 := Lib.hid (B2.out.trans hb3)
  replace hA := Lib.hid hA
  clear hO2 hb2 hO3 hb3 bl2 O1 B1 B2 hnil cC
  go_wp2_with (at_builtin; refine wpList_appended rfl _ _ _ _ rfl _ _ _ rfl rfl hap ?_)
  clear hap
  refine (hL.out D.length hlD _).mono ?_
  rintro e w4 ⟨rfl, hR4, hb4⟩
  have bl4 : BL w4 w3.heap.size 0 (Obol.lenS D.length 8) := hR4.bl
  have B4 := Lib.hid (bThen B3.out hb4 B3.out.size)
  obtain ⟨v5, w5, hap, hO5, hb5, -, hnil⟩ := append_ownB w4 w.heap.size _ A (Obol.lenS D.length 8) (O3.out.below hb4) ⟨w3.heap.size, 0, none⟩ 8 8 (Obol.lenS_len _ _) (fun j hj => by
    rw [addP]; exact bl4 j hj) (by rw [Obol.lenS_len]; omega) B4.out.size
  obtain ⟨g5, c5, rfl⟩ := own_shape hO5 (fun h => by cases (hnil.1 h).1)
  have hl5 : (A ++ Obol.lenS D.length 8).length ≤ 3000008 := by rw [List.length_append, Obol.lenS_len]; omega
  obtain ⟨A2, hA2⟩ : ∃ l, A ++ Obol.lenS D.length 8 = l := ⟨_, rfl⟩
  rw [hA2] at hO5 hap hl5
  have O5 := Lib.hid hO5
  have B5 := Lib.hid (B4.out.trans hb5)
  replace hA2 := Lib.hid hA2
  clear hR4 hb4 hO5 hb5 bl4 O3 B3 B4 hnil
  go_wp2_with (at_builtin; refine wpList_appended rfl _ _ _ _ rfl _ _ _ rfl rfl hap ?_)
  clear hap
  refine (hL.out C.length hlC _).mono ?_
  rintro e w6 ⟨rfl, hR6, hb6⟩
  have bl6 : BL w6 w5.heap.size 0 (Obol.lenS C.length 8) := hR6.bl
  have B6 := Lib.hid (bThen B5.out hb6 B5.out.size)
  obtain ⟨v7, w7, hap, hO7, hb7, -, hnil⟩ := append_ownB w6 w.heap.size _ A2 (Obol.lenS C.length 8) (O5.out.below hb6) ⟨w5.heap.size, 0, none⟩ 8 8 (Obol.lenS_len _ _) (fun j hj => by
    rw [addP]; exact bl6 j hj) (by rw [Obol.lenS_len]; omega) B6.out.size
  obtain ⟨g7, c7, rfl⟩ := own_shape hO7 (fun h => by cases (hnil.1 h).1)
  have hAB : A2 ++ Obol.lenS C.length 8 = Obol.allB D C := by rw [← hA2.out, ← hA.out]; rfl
  rw [hAB] at hO7 hap
  have hl7 : (Obol.allB D C).length ≤ 3000016 := by rw [← hAB, List.length_append, Obol.lenS_len]; omega
  have O7 := Lib.hid hO7
  have B7 := Lib.hid (B6.out.trans hb7)
  clear hR6 hb6 hO7 hb7 bl6 O5 B5 B6 hnil hAB
  go_wp2_with (at_builtin; refine wpList_appended rfl _ _ _ _ rfl _ _ _ rfl rfl hap ?_)
  clear hap
  refine (cB.out _ B7.out).mono ?_
  rintro e w8 ⟨v8, rfl, hO8, hb8⟩
  rw [show (0 : Int).toNat = 0 from rfl] at hO8
  obtain ⟨g8, c8, cur, rfl, hg8, hrow, hc8, -, -, -⟩ := hO8.size (by rw [Obol.blk_len]; decide)
  have bl8 := hO8.bl
  rw [Obol.blk_len] at hc8 hO8 ⊢
  have h32 : (32 : Int) ≤ (c8 : Int) := by omega
  have h32n : 32 ≤ c8 := by omega
  have B8' := Lib.hid (bThen B7.out hb8 B7.out.size)
  have O9 := Lib.hid (O7.out.below hb8)
  have hsl := (OwnB.sl O9.out).2
  have cM := Lib.hid (rMark g8 0 c8 ((Obol.blkL K N 0).take 32) ⟨by rw [List.length_take, Obol.blk_len]; rfl, fun i => by rw [Obol.getD_take]; split; exact (blk_b8 K N 0).lt i; decide⟩ (some ⟨g7, 0, none⟩) (Obol.allB D C).length c7 (Obol.allB D C) ⟨rfl, hAl.out⟩ (by omega) w8 hrow.lt (fun i hi => by
    rw [List.length_take, Obol.blk_len] at hi
    rw [bl8 i (by rw [Obol.blk_len]; omega), Obol.getD_take, if_pos (by omega)]) hsl)
  clear hO8 hb8 hrow bl8 hsl O7 B7 O9
  go_wp2_with fail
  refine cM.out.mono ?_
  rintro e w9 ⟨g9, rfl, hR9, hg9, hb9⟩
  have hz := B8'.out.size
  have R9 := Lib.hid hR9
  have B9 := Lib.hid (bThen B8'.out hb9 hz)
  have G9 := Lib.hid (Nat.le_trans hz hg9)
  clear hR9 hb9 hg9 hz cM
  go_wp2_with fail
  go_ret
  exact ⟨g9, rfl, R9.out, G9.out, B9.out⟩

end Go.Proofs.YtallfmiikjmgaaaDoor
