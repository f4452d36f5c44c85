import Derived.Test.YtallfmiikjmgaaaDoorZWblk
import Derived.Test.YtallfmiikjmgaaaDoorZWrqua
import Derived.Test.YtallfmiikjmgaaaDoorZWrsum
set_option linter.unusedVariables false
set_option linter.unusedSimpArgs false
/- Walks: the reference of layer 6: a block. -/
namespace Obol
theorem qrnd_eq (V : List Nat) : qdias 4 (qcols 4 V) = quaL (quaL (quaL (quaL (quaL (quaL (quaL (quaL (V) 0 4 8 12) 1 5 9 13) 2 6 10 14) 3 7 11 15) 0 5 10 15) 1 6 11 12) 2 7 8 13) 3 4 9 14 := rfl
theorem words_at (L : List Nat) (q j : Nat) (h : j < q) : (wordsOf L q).getD j 0 = wordAt L (4 * j) := by
  rw [List.getD_eq_getElem?_getD, wordsOf, List.getElem?_map, List.getElem?_range h]
  rfl
end Obol
namespace Go.Proofs.YtallfmiikjmgaaaDoor
open Go.RowKit

/-- The blocks of the reference's Block. -/
structure RB (w wr : World) (b0 gk gn : Nat) (K N F : List Nat) : Prop where
  ord : w.heap.size = b0 ∧ b0 < gk ∧ b0 < gn
  rk : WL wr gk 0 (Obol.wordsOf K 8)
  rn : WL wr gn 0 (Obol.wordsOf N 3)
  rf : Row wr b0 (u32s F) 112
  bw : Below w.heap.size w wr
theorem WL.set {w : World} {b c j : Nat} {v : Value} {L : List Nat} (h : WL w b 0 L) (hne : c ≠ b) : WL (w.setCell ⟨c, j, none⟩ v) b 0 L := fun i hi => (World.cell?_setCell_other w ⟨c, j, none⟩ ⟨b, 0 + i, none⟩ v (fun e => hne (by cases e; rfl))).trans (h i hi)
theorem RB.setF {w wr : World} {b0 gk gn : Nat} {K N F : List Nat} (p : RB w wr b0 gk gn K N F) (i Z : Nat) {z : Int} (hz : z = (Z : Int)) : RB w (wr.setCell ⟨b0, i, none⟩ (.int .u32 z)) b0 gk gn K N (F.set i Z) := by
  have o := p.ord
  exact ⟨o, p.rk.set (by omega), p.rn.set (by omega), rowSet p.rf i Z hz, bSet p.bw (by omega)⟩
theorem RB.wk {w wr : World} {b0 gk gn : Nat} {K N F : List Nat} (p : RB w wr b0 gk gn K N F) {i : Int} (i0 : 0 ≤ i) (i1 : i < 8) : wr.cell? ⟨gk, i.toNat, none⟩ = some (.int .u32 ((Obol.wordAt K (4 * i.toNat) : Nat) : Int)) := by
  have h := p.rk i.toNat (by rw [Obol.wordsOf_len]; omega)
  rwa [Nat.zero_add, Obol.words_at _ _ _ (by omega)] at h
theorem RB.wn {w wr : World} {b0 gk gn : Nat} {K N F : List Nat} (p : RB w wr b0 gk gn K N F) {i : Int} (i0 : 0 ≤ i) (i1 : i < 3) : wr.cell? ⟨gn, i.toNat, none⟩ = some (.int .u32 ((Obol.wordAt N (4 * i.toNat) : Nat) : Int)) := by
  have h := p.rn i.toNat (by rw [Obol.wordsOf_len]; omega)
  rwa [Nat.zero_add, Obol.words_at _ _ _ (by omega)] at h

set_option maxRecDepth 8000 in
set_option maxHeartbeats 16000000 in
theorem rBlock (bk ok ck bn on cn : Nat) (K N : List Nat) (HK : B8 32 K) (HN : B8 12 N) (count : Int) (k0 : 0 ≤ count) (k1 : count ≤ 4294967295) (w : World) (hbk : bk < w.heap.size) (hbn : bn < w.heap.size) (hBK : BL w bk ok K) (hBN : BL w bn on N) :
    Calls Tryd.prog 74 #[.slice (some ⟨bk, ok, none⟩) 32 ck, .slice (some ⟨bn, on, none⟩) 12 cn, .int .u32 count] w fun e w' => ∃ v, e = .returned v ∧ OwnB w' w.heap.size v (Obol.blkL K N count.toNat) ∧ Below w.heap.size w w' := by
  have cK := Lib.hid (fun W (h : Below w.heap.size w W) => r5Words bk ok 32 ck K 8 (by omega) (by omega) HK (by omega) W (Nat.lt_of_lt_of_le hbk h.size) (hBK.below h hbk))
  have cN := Lib.hid (fun W (h : Below w.heap.size w W) => r5Words bn on 12 cn N 3 (by omega) (by omega) HN (by omega) W (Nat.lt_of_lt_of_le hbn h.size) (hBN.below h hbn))
  have HK := Lib.hid HK
  have HN := Lib.hid HN
  clear hBK hBN hbk hbn
  go_enter Tryd.func74, Tryd.ntmps74
  go_wp2_with fail
  change Calls _ _ _ (w.alloc (.cells (u32s Obol.sigL) 112)) _
  have R := Lib.hid (Row.new w (u32s Obol.sigL) 112)
  have B := Lib.hid (bAlloc (Below.refl _ w) (.cells (u32s Obol.sigL) 112))
  have hs1 : (w.alloc (.cells (u32s Obol.sigL) 112)).heap.size = w.heap.size + 1 := World.size_alloc ..
  generalize w.alloc (.cells (u32s Obol.sigL) 112) = w2 at R B hs1 ⊢
  obtain ⟨b0, hb0⟩ : ∃ b, w.heap.size = b := ⟨_, rfl⟩
  rw [hb0] at R hs1 ⊢
  refine (cK.out _ B.out).mono ?_
  rintro e w3 ⟨v, rfl, hOk, hb3⟩
  obtain ⟨gk, capk, rfl, hgk, hgk2, hck, hWk⟩ := hOk.size (by rw [Obol.wordsOf_len]; decide)
  rw [Obol.wordsOf_len]
  rw [Obol.wordsOf_len] at hck
  have B3 := Lib.hid (bThen B.out hb3 B.out.size)
  have R3 := Lib.hid (R.out.below hb3 R.out.lt)
  clear hOk B R cK
  go_wp2_with fail
  refine (cN.out _ B3.out).mono ?_
  rintro e w4 ⟨v, rfl, hOn, hb4⟩
  obtain ⟨gn, capn, rfl, hgn, hgn2, hcn2, hWn⟩ := hOn.size (by rw [Obol.wordsOf_len]; decide)
  rw [Obol.wordsOf_len]
  rw [Obol.wordsOf_len] at hcn2
  have P : Hid (RB w w4 b0 gk gn K N Obol.sigL) := Lib.hid ⟨⟨hb0, by omega, by have := hb3.size; omega⟩, hWk.below hb4 hgk2, hWn, R3.out.below hb4 R3.out.lt, bThen B3.out hb4 B3.out.size⟩
  have hck' : (8 : Int) ≤ capk := by omega
  have hcn' : (3 : Int) ≤ capn := by omega
  clear hOn hWk hWn hb3 hb4 hgk hgk2 hgn hgn2 hck hcn2 R3 B3 cN hs1
  replace hb0 := Lib.hid hb0
  go_wp2_with fail
  go_loopw [10] (fun q1 wr => ∃ j : Nat, q1 = .int .i64 (j : Int) ∧ j ≤ 8 ∧ Hid (RB w wr b0 gk gn K N (Obol.setsW K 4 j Obol.sigL))) (fun q1 _ => (8 - intOf q1).toNat)
  case atStart => exact ⟨0, rfl, by omega, P⟩
  case round =>
    clear P
    rename World => wr
    obtain ⟨j, rfl, hj, P⟩ := hrel
    obtain ⟨i, hi⟩ : ∃ i : Int, (j : Int) = i := ⟨_, rfl⟩
    rw [hi]
    have i0 : 0 ≤ i := by omega
    have HF := Lib.hid (Obol.setsW_w HK.out.lt 4 Obol.sig_w j)
    by_cases hj8 : j < 8
    · have i1 : i < 8 := by omega
      have e4 : (4 + i).toNat = 4 + j := by omega
      have ck := P.out.wk i0 i1
      rw [show i.toNat = j by omega] at ck
      have hit : i.toNat = j := by omega
      have f := P.out.rf.free (4 + i).toNat
      have c := P.out.rf.cell (4 + i).toNat (u32s_at HF.out (by omega) (by omega))
      have hw4 := wrap_small (x := 4 + i) (by omega) (by omega)
      have PN := Lib.hid (P.out.setF (4 + i).toNat _ (rfl : ((Obol.wordAt K (4 * j) : Nat) : Int) = _))
      replace e4 := Lib.hid e4
      go_wp2_with fail
      go_roundw
      case rel => exact ⟨j + 1, by simp; omega, by omega, by show Hid (RB _ _ _ _ _ _ _ ((Obol.setsW K 4 j Obol.sigL).set (4 + j) _)); rw [← e4.out]; exact PN⟩
      case measure => simp [intOf]; omega
    · obtain rfl : j = 8 := by omega
      have i1 : ¬ i < 8 := by omega
      have f := P.out.rf.free 12
      have c := P.out.rf.cell 12 (u32s_get HF.out 12 (by decide))
      have HF2 := Lib.hid (HF.out.set 12 count.toNat (by omega))
      have P2 := Lib.hid (P.out.setF 12 count.toNat (z := count) (by omega))
      go_wp2_with fail
      generalize wr.setCell ⟨b0, 12, none⟩ (.int .u32 count) = w5 at P2 ⊢
      generalize hF2 : (Obol.setsW K 4 8 Obol.sigL).set 12 count.toNat = F2 at P2 HF2 ⊢
      replace hF2 := Lib.hid hF2
      clear P f c HF i0 hi i1
      go_loopw [11] (fun q1 wr => ∃ j : Nat, q1 = .int .i64 (j : Int) ∧ j ≤ 3 ∧ Hid (RB w wr b0 gk gn K N (Obol.setsW N 13 j F2))) (fun q1 _ => (3 - intOf q1).toNat)
      case atStart => exact ⟨0, rfl, by omega, P2⟩
      case round =>
        clear P2
        rename World => wr
        obtain ⟨j, rfl, hj, P⟩ := hrel
        obtain ⟨i, hi⟩ : ∃ i : Int, (j : Int) = i := ⟨_, rfl⟩
        rw [hi]
        have i0 : 0 ≤ i := by omega
        have HF := Lib.hid (Obol.setsW_w HN.out.lt 13 HF2.out j)
        by_cases hj8 : j < 3
        · have i1 : i < 3 := by omega
          have e4 : (13 + i).toNat = 13 + j := by omega
          have ck := P.out.wn i0 i1
          rw [show i.toNat = j by omega] at ck
          have hit : i.toNat = j := by omega
          have f := P.out.rf.free (13 + i).toNat
          have c := P.out.rf.cell (13 + i).toNat (u32s_at HF.out (by omega) (by omega))
          have hw4 := wrap_small (x := 13 + i) (by omega) (by omega)
          have PN := Lib.hid (P.out.setF (13 + i).toNat _ (rfl : ((Obol.wordAt N (4 * j) : Nat) : Int) = _))
          replace e4 := Lib.hid e4
          go_wp2_with fail
          go_roundw
          case rel => exact ⟨j + 1, by simp; omega, by omega, by show Hid (RB _ _ _ _ _ _ _ ((Obol.setsW N 13 j F2).set (13 + j) _)); rw [← e4.out]; exact PN⟩
          case measure => simp [intOf]; omega
        · obtain rfl : j = 3 := by omega
          have i1 : ¬ i < 3 := by omega
          generalize hF : Obol.setsW N 13 3 F2 = F at P HF ⊢
          have hFF : Hid (F = Obol.frstL K N count.toNat) := Lib.hid (by rw [← hF, ← hF2.out]; rfl)
          clear hF hF2 HF2
          have R := Lib.hid P.out.rf
          have B := Lib.hid P.out.bw
          clear P
          have hn : (u32s F).size = 16 := u32s_n HF.out
          have hbr : b0 < wr.heap.size := R.out.lt
          have RA := Row.new wr (u32s (zs 16)) 112
          have hz16 : (u32s (zs 16)).size = 16 := by unfold u32s; simp
          have h1 : (u32s F).toList.toArray.all (·.oneCell') = true := by rw [Array.toArray_toList]; exact u32s_one F
          have hth : (wr.alloc (.cells (u32s (zs 16)) 112)).there wr.heap.size 0 (u32s F).toList.toArray.size := by rw [Array.toArray_toList, hn, ← hz16]; exact RA.there
          have RV : Hid (Row ((wr.alloc (.cells (u32s (zs 16)) 112)).setCells wr.heap.size 0 (u32s F).toList.toArray.toList) wr.heap.size (u32s F) 112) := Lib.hid (by rw [Array.toArray_toList]; exact RA.store (u32s F) (by rw [hn, hz16]))
          have R3 : Hid (Row ((wr.alloc (.cells (u32s (zs 16)) 112)).setCells wr.heap.size 0 (u32s F).toList.toArray.toList) b0 (u32s F) 112) := Lib.hid (Row.otherMany (by omega) _ _ _ (R.out.alloc _))
          have B3 : Hid (Below w.heap.size w ((wr.alloc (.cells (u32s (zs 16)) 112)).setCells wr.heap.size 0 (u32s F).toList.toArray.toList)) := Lib.hid (bSetMany (by have := B.out.size; omega) _ _ _ (bAlloc B.out _))
          go_wp2_with (first
            | (refine wpList_load_mid rfl _ _ rfl b0 0 rfl (u32s F).toList _ R.out.range und53 rfl (by rw [siz53]; simp [hn]) ?_)
            | (refine wpList_store_mid rfl _ _ _ rfl wr.heap.size 0 (u32s F).toList.toArray rfl rfl hth (by rw [siz53]; simp [hn]) h1 ?_))
          change Code.wp _ _ _ _ ((wr.alloc (.cells (u32s (zs 16)) 112)).setCells wr.heap.size 0 (u32s F).toList.toArray.toList)
          generalize (wr.alloc (.cells (u32s (zs 16)) 112)).setCells wr.heap.size 0 (u32s F).toList.toArray.toList = w6 at RV R3 B3 ⊢
          have hb1w : w.heap.size < wr.heap.size := by rw [hb0.out]; exact hbr
          generalize wr.heap.size = b1 at RV hbr hb1w ⊢
          clear R B hth h1 RA hn hz16 i0 i1 hi
          have RV0 : Hid (Row w6 b1 (u32s (Obol.qrnds 0 F)) 112) := RV
          clear RV
          go_loopw [13] (fun q1 wr => ∃ j : Nat, q1 = .int .i64 (j : Int) ∧ j ≤ 10 ∧ Hid (Row wr b1 (u32s (Obol.qrnds j F)) 112) ∧ Hid (Row wr b0 (u32s F) 112) ∧ Hid (Below w.heap.size w wr)) (fun q1 _ => (10 - intOf q1).toNat)
          case atStart => exact ⟨0, rfl, by omega, RV0, R3, B3⟩
          case round =>
            clear RV0 R3 B3
            rename World => wx
            obtain ⟨j, rfl, hj, RV, R, B⟩ := hrel
            obtain ⟨i, hi⟩ : ∃ i : Int, (j : Int) = i := ⟨_, rfl⟩
            rw [hi]
            have i0 : 0 ≤ i := by omega
            have HV := Lib.hid (Obol.qrnds_w HF.out j)
            by_cases hj10 : j < 10
            · have i1 : i < 10 := by omega
              generalize hV : Obol.qrnds j F = V at RV HV
              replace hV := Lib.hid hV
              obtain ⟨U0, hU0⟩ : ∃ l, l = V := ⟨_, rfl⟩
              rw [← hU0] at RV HV
              have HU := Lib.hid HV.out
              have S0 := Lib.hid hU0
              clear hU0 HV
              obtain ⟨U1, hU2⟩ : ∃ l, l = Obol.quaL U0 0 4 8 12 := ⟨_, rfl⟩
              have cQ := fun W => rQua 0 4 8 12 (by decide) (by decide) (by decide) (by decide) (by decide) (by decide) (by decide) (by decide) U0 HU.out W
              rw [show (0 : Int).toNat = 0 from rfl, show (4 : Int).toNat = 4 from rfl, show (8 : Int).toNat = 8 from rfl, show (12 : Int).toNat = 12 from rfl, ← hU2] at cQ
              replace cQ := Lib.hid cQ
              have HU2 : Hid (Obol.W32 16 U1) := Lib.hid (by rw [hU2]; exact Obol.quaL_w HU.out _ _ _ _)
              have S1 := Lib.hid hU2
              clear hU2
              have hn := Lib.hid (u32s_n HU.out)
              have hn2 := Lib.hid (u32s_n HU2.out)
              go_wp2_with (refine wpList_load_mid rfl _ _ rfl b1 0 rfl (u32s U0).toList _ RV.out.range und53 rfl (by rw [siz53]; simp [hn.out]) ?_)
              rw [Array.toArray_toList]
              refine (cQ.out _).mono ?_
              rintro e wn ⟨rfl, hbn⟩
              have RV2 := RV.out.below hbn RV.out.lt
              have R2 := R.out.below hbn R.out.lt
              have B2 := bThen B.out hbn B.out.size
              have h1 : (u32s U1).all (·.oneCell') = true := u32s_one U1
              have hth : wn.there b1 0 (u32s U1).size := by rw [hn2.out, ← hn.out]; exact RV2.there
              go_upto_region 18 with (refine wpList_store_mid rfl _ _ _ rfl b1 0 (u32s U1) rfl rfl hth (by rw [siz53, hn2.out]) h1 ?_)
              have RVN := Lib.hid (RV2.store (u32s U1) (by rw [hn2.out, hn.out]))
              have RN2 : Hid (Row (wn.setCells b1 0 (u32s U1).toList) b0 (u32s F) 112) := Lib.hid (Row.otherMany (c := b1) (by omega) _ _ _ R2)
              have BN2 : Hid (Below w.heap.size w (wn.setCells b1 0 (u32s U1).toList)) := Lib.hid (bSetMany (by omega) _ _ _ B2)
              generalize wn.setCells b1 0 (u32s U1).toList = y1 at RVN RN2 BN2 ⊢
              have RV := RVN
              have R := RN2
              have B := BN2
              have HU := HU2
              clear RVN RN2 BN2 HU2 hth h1 RV2 R2 B2 hbn cQ hn hn2
              obtain ⟨U2, hU2⟩ : ∃ l, l = Obol.quaL U1 1 5 9 13 := ⟨_, rfl⟩
              have cQ := fun W => rQua 1 5 9 13 (by decide) (by decide) (by decide) (by decide) (by decide) (by decide) (by decide) (by decide) U1 HU.out W
              rw [show (1 : Int).toNat = 1 from rfl, show (5 : Int).toNat = 5 from rfl, show (9 : Int).toNat = 9 from rfl, show (13 : Int).toNat = 13 from rfl, ← hU2] at cQ
              replace cQ := Lib.hid cQ
              have HU2 : Hid (Obol.W32 16 U2) := Lib.hid (by rw [hU2]; exact Obol.quaL_w HU.out _ _ _ _)
              have S2 := Lib.hid hU2
              clear hU2
              have hn := Lib.hid (u32s_n HU.out)
              have hn2 := Lib.hid (u32s_n HU2.out)
              go_wp2_with (refine wpList_load_mid rfl _ _ rfl b1 0 rfl (u32s U1).toList _ RV.out.range und53 rfl (by rw [siz53]; simp [hn.out]) ?_)
              rw [Array.toArray_toList]
              refine (cQ.out _).mono ?_
              rintro e wn ⟨rfl, hbn⟩
              have RV2 := RV.out.below hbn RV.out.lt
              have R2 := R.out.below hbn R.out.lt
              have B2 := bThen B.out hbn B.out.size
              have h1 : (u32s U2).all (·.oneCell') = true := u32s_one U2
              have hth : wn.there b1 0 (u32s U2).size := by rw [hn2.out, ← hn.out]; exact RV2.there
              go_upto_region 19 with (refine wpList_store_mid rfl _ _ _ rfl b1 0 (u32s U2) rfl rfl hth (by rw [siz53, hn2.out]) h1 ?_)
              have RVN := Lib.hid (RV2.store (u32s U2) (by rw [hn2.out, hn.out]))
              have RN2 : Hid (Row (wn.setCells b1 0 (u32s U2).toList) b0 (u32s F) 112) := Lib.hid (Row.otherMany (c := b1) (by omega) _ _ _ R2)
              have BN2 : Hid (Below w.heap.size w (wn.setCells b1 0 (u32s U2).toList)) := Lib.hid (bSetMany (by omega) _ _ _ B2)
              generalize wn.setCells b1 0 (u32s U2).toList = y2 at RVN RN2 BN2 ⊢
              have RV := RVN
              have R := RN2
              have B := BN2
              have HU := HU2
              clear RVN RN2 BN2 HU2 hth h1 RV2 R2 B2 hbn cQ hn hn2
              obtain ⟨U3, hU2⟩ : ∃ l, l = Obol.quaL U2 2 6 10 14 := ⟨_, rfl⟩
              have cQ := fun W => rQua 2 6 10 14 (by decide) (by decide) (by decide) (by decide) (by decide) (by decide) (by decide) (by decide) U2 HU.out W
              rw [show (2 : Int).toNat = 2 from rfl, show (6 : Int).toNat = 6 from rfl, show (10 : Int).toNat = 10 from rfl, show (14 : Int).toNat = 14 from rfl, ← hU2] at cQ
              replace cQ := Lib.hid cQ
              have HU2 : Hid (Obol.W32 16 U3) := Lib.hid (by rw [hU2]; exact Obol.quaL_w HU.out _ _ _ _)
              have S3 := Lib.hid hU2
              clear hU2
              have hn := Lib.hid (u32s_n HU.out)
              have hn2 := Lib.hid (u32s_n HU2.out)
              go_wp2_with (refine wpList_load_mid rfl _ _ rfl b1 0 rfl (u32s U2).toList _ RV.out.range und53 rfl (by rw [siz53]; simp [hn.out]) ?_)
              rw [Array.toArray_toList]
              refine (cQ.out _).mono ?_
              rintro e wn ⟨rfl, hbn⟩
              have RV2 := RV.out.below hbn RV.out.lt
              have R2 := R.out.below hbn R.out.lt
              have B2 := bThen B.out hbn B.out.size
              have h1 : (u32s U3).all (·.oneCell') = true := u32s_one U3
              have hth : wn.there b1 0 (u32s U3).size := by rw [hn2.out, ← hn.out]; exact RV2.there
              go_upto_region 20 with (refine wpList_store_mid rfl _ _ _ rfl b1 0 (u32s U3) rfl rfl hth (by rw [siz53, hn2.out]) h1 ?_)
              have RVN := Lib.hid (RV2.store (u32s U3) (by rw [hn2.out, hn.out]))
              have RN2 : Hid (Row (wn.setCells b1 0 (u32s U3).toList) b0 (u32s F) 112) := Lib.hid (Row.otherMany (c := b1) (by omega) _ _ _ R2)
              have BN2 : Hid (Below w.heap.size w (wn.setCells b1 0 (u32s U3).toList)) := Lib.hid (bSetMany (by omega) _ _ _ B2)
              generalize wn.setCells b1 0 (u32s U3).toList = y3 at RVN RN2 BN2 ⊢
              have RV := RVN
              have R := RN2
              have B := BN2
              have HU := HU2
              clear RVN RN2 BN2 HU2 hth h1 RV2 R2 B2 hbn cQ hn hn2
              obtain ⟨U4, hU2⟩ : ∃ l, l = Obol.quaL U3 3 7 11 15 := ⟨_, rfl⟩
              have cQ := fun W => rQua 3 7 11 15 (by decide) (by decide) (by decide) (by decide) (by decide) (by decide) (by decide) (by decide) U3 HU.out W
              rw [show (3 : Int).toNat = 3 from rfl, show (7 : Int).toNat = 7 from rfl, show (11 : Int).toNat = 11 from rfl, show (15 : Int).toNat = 15 from rfl, ← hU2] at cQ
              replace cQ := Lib.hid cQ
              have HU2 : Hid (Obol.W32 16 U4) := Lib.hid (by rw [hU2]; exact Obol.quaL_w HU.out _ _ _ _)
              have S4 := Lib.hid hU2
              clear hU2
              have hn := Lib.hid (u32s_n HU.out)
              have hn2 := Lib.hid (u32s_n HU2.out)
              go_wp2_with (refine wpList_load_mid rfl _ _ rfl b1 0 rfl (u32s U3).toList _ RV.out.range und53 rfl (by rw [siz53]; simp [hn.out]) ?_)
              rw [Array.toArray_toList]
              refine (cQ.out _).mono ?_
              rintro e wn ⟨rfl, hbn⟩
              have RV2 := RV.out.below hbn RV.out.lt
              have R2 := R.out.below hbn R.out.lt
              have B2 := bThen B.out hbn B.out.size
              have h1 : (u32s U4).all (·.oneCell') = true := u32s_one U4
              have hth : wn.there b1 0 (u32s U4).size := by rw [hn2.out, ← hn.out]; exact RV2.there
              go_upto_region 21 with (refine wpList_store_mid rfl _ _ _ rfl b1 0 (u32s U4) rfl rfl hth (by rw [siz53, hn2.out]) h1 ?_)
              have RVN := Lib.hid (RV2.store (u32s U4) (by rw [hn2.out, hn.out]))
              have RN2 : Hid (Row (wn.setCells b1 0 (u32s U4).toList) b0 (u32s F) 112) := Lib.hid (Row.otherMany (c := b1) (by omega) _ _ _ R2)
              have BN2 : Hid (Below w.heap.size w (wn.setCells b1 0 (u32s U4).toList)) := Lib.hid (bSetMany (by omega) _ _ _ B2)
              generalize wn.setCells b1 0 (u32s U4).toList = y4 at RVN RN2 BN2 ⊢
              have RV := RVN
              have R := RN2
              have B := BN2
              have HU := HU2
              clear RVN RN2 BN2 HU2 hth h1 RV2 R2 B2 hbn cQ hn hn2
              obtain ⟨U5, hU2⟩ : ∃ l, l = Obol.quaL U4 0 5 10 15 := ⟨_, rfl⟩
              have cQ := fun W => rQua 0 5 10 15 (by decide) (by decide) (by decide) (by decide) (by decide) (by decide) (by decide) (by decide) U4 HU.out W
              rw [show (0 : Int).toNat = 0 from rfl, show (5 : Int).toNat = 5 from rfl, show (10 : Int).toNat = 10 from rfl, show (15 : Int).toNat = 15 from rfl, ← hU2] at cQ
              replace cQ := Lib.hid cQ
              have HU2 : Hid (Obol.W32 16 U5) := Lib.hid (by rw [hU2]; exact Obol.quaL_w HU.out _ _ _ _)
              have S5 := Lib.hid hU2
              clear hU2
              have hn := Lib.hid (u32s_n HU.out)
              have hn2 := Lib.hid (u32s_n HU2.out)
              go_wp2_with (refine wpList_load_mid rfl _ _ rfl b1 0 rfl (u32s U4).toList _ RV.out.range und53 rfl (by rw [siz53]; simp [hn.out]) ?_)
              rw [Array.toArray_toList]
              refine (cQ.out _).mono ?_
              rintro e wn ⟨rfl, hbn⟩
              have RV2 := RV.out.below hbn RV.out.lt
              have R2 := R.out.below hbn R.out.lt
              have B2 := bThen B.out hbn B.out.size
              have h1 : (u32s U5).all (·.oneCell') = true := u32s_one U5
              have hth : wn.there b1 0 (u32s U5).size := by rw [hn2.out, ← hn.out]; exact RV2.there
              go_upto_region 22 with (refine wpList_store_mid rfl _ _ _ rfl b1 0 (u32s U5) rfl rfl hth (by rw [siz53, hn2.out]) h1 ?_)
              have RVN := Lib.hid (RV2.store (u32s U5) (by rw [hn2.out, hn.out]))
              have RN2 : Hid (Row (wn.setCells b1 0 (u32s U5).toList) b0 (u32s F) 112) := Lib.hid (Row.otherMany (c := b1) (by omega) _ _ _ R2)
              have BN2 : Hid (Below w.heap.size w (wn.setCells b1 0 (u32s U5).toList)) := Lib.hid (bSetMany (by omega) _ _ _ B2)
              generalize wn.setCells b1 0 (u32s U5).toList = y5 at RVN RN2 BN2 ⊢
              have RV := RVN
              have R := RN2
              have B := BN2
              have HU := HU2
              clear RVN RN2 BN2 HU2 hth h1 RV2 R2 B2 hbn cQ hn hn2
              obtain ⟨U6, hU2⟩ : ∃ l, l = Obol.quaL U5 1 6 11 12 := ⟨_, rfl⟩
              have cQ := fun W => rQua 1 6 11 12 (by decide) (by decide) (by decide) (by decide) (by decide) (by decide) (by decide) (by decide) U5 HU.out W
              rw [show (1 : Int).toNat = 1 from rfl, show (6 : Int).toNat = 6 from rfl, show (11 : Int).toNat = 11 from rfl, show (12 : Int).toNat = 12 from rfl, ← hU2] at cQ
              replace cQ := Lib.hid cQ
              have HU2 : Hid (Obol.W32 16 U6) := Lib.hid (by rw [hU2]; exact Obol.quaL_w HU.out _ _ _ _)
              have S6 := Lib.hid hU2
              clear hU2
              have hn := Lib.hid (u32s_n HU.out)
              have hn2 := Lib.hid (u32s_n HU2.out)
              go_wp2_with (refine wpList_load_mid rfl _ _ rfl b1 0 rfl (u32s U5).toList _ RV.out.range und53 rfl (by rw [siz53]; simp [hn.out]) ?_)
              rw [Array.toArray_toList]
              refine (cQ.out _).mono ?_
              rintro e wn ⟨rfl, hbn⟩
              have RV2 := RV.out.below hbn RV.out.lt
              have R2 := R.out.below hbn R.out.lt
              have B2 := bThen B.out hbn B.out.size
              have h1 : (u32s U6).all (·.oneCell') = true := u32s_one U6
              have hth : wn.there b1 0 (u32s U6).size := by rw [hn2.out, ← hn.out]; exact RV2.there
              go_upto_region 23 with (refine wpList_store_mid rfl _ _ _ rfl b1 0 (u32s U6) rfl rfl hth (by rw [siz53, hn2.out]) h1 ?_)
              have RVN := Lib.hid (RV2.store (u32s U6) (by rw [hn2.out, hn.out]))
              have RN2 : Hid (Row (wn.setCells b1 0 (u32s U6).toList) b0 (u32s F) 112) := Lib.hid (Row.otherMany (c := b1) (by omega) _ _ _ R2)
              have BN2 : Hid (Below w.heap.size w (wn.setCells b1 0 (u32s U6).toList)) := Lib.hid (bSetMany (by omega) _ _ _ B2)
              generalize wn.setCells b1 0 (u32s U6).toList = y6 at RVN RN2 BN2 ⊢
              have RV := RVN
              have R := RN2
              have B := BN2
              have HU := HU2
              clear RVN RN2 BN2 HU2 hth h1 RV2 R2 B2 hbn cQ hn hn2
              obtain ⟨U7, hU2⟩ : ∃ l, l = Obol.quaL U6 2 7 8 13 := ⟨_, rfl⟩
              have cQ := fun W => rQua 2 7 8 13 (by decide) (by decide) (by decide) (by decide) (by decide) (by decide) (by decide) (by decide) U6 HU.out W
              rw [show (2 : Int).toNat = 2 from rfl, show (7 : Int).toNat = 7 from rfl, show (8 : Int).toNat = 8 from rfl, show (13 : Int).toNat = 13 from rfl, ← hU2] at cQ
              replace cQ := Lib.hid cQ
              have HU2 : Hid (Obol.W32 16 U7) := Lib.hid (by rw [hU2]; exact Obol.quaL_w HU.out _ _ _ _)
              have S7 := Lib.hid hU2
              clear hU2
              have hn := Lib.hid (u32s_n HU.out)
              have hn2 := Lib.hid (u32s_n HU2.out)
              go_wp2_with (refine wpList_load_mid rfl _ _ rfl b1 0 rfl (u32s U6).toList _ RV.out.range und53 rfl (by rw [siz53]; simp [hn.out]) ?_)
              rw [Array.toArray_toList]
              refine (cQ.out _).mono ?_
              rintro e wn ⟨rfl, hbn⟩
              have RV2 := RV.out.below hbn RV.out.lt
              have R2 := R.out.below hbn R.out.lt
              have B2 := bThen B.out hbn B.out.size
              have h1 : (u32s U7).all (·.oneCell') = true := u32s_one U7
              have hth : wn.there b1 0 (u32s U7).size := by rw [hn2.out, ← hn.out]; exact RV2.there
              go_upto_region 24 with (refine wpList_store_mid rfl _ _ _ rfl b1 0 (u32s U7) rfl rfl hth (by rw [siz53, hn2.out]) h1 ?_)
              have RVN := Lib.hid (RV2.store (u32s U7) (by rw [hn2.out, hn.out]))
              have RN2 : Hid (Row (wn.setCells b1 0 (u32s U7).toList) b0 (u32s F) 112) := Lib.hid (Row.otherMany (c := b1) (by omega) _ _ _ R2)
              have BN2 : Hid (Below w.heap.size w (wn.setCells b1 0 (u32s U7).toList)) := Lib.hid (bSetMany (by omega) _ _ _ B2)
              generalize wn.setCells b1 0 (u32s U7).toList = y7 at RVN RN2 BN2 ⊢
              have RV := RVN
              have R := RN2
              have B := BN2
              have HU := HU2
              clear RVN RN2 BN2 HU2 hth h1 RV2 R2 B2 hbn cQ hn hn2
              obtain ⟨U8, hU2⟩ : ∃ l, l = Obol.quaL U7 3 4 9 14 := ⟨_, rfl⟩
              have cQ := fun W => rQua 3 4 9 14 (by decide) (by decide) (by decide) (by decide) (by decide) (by decide) (by decide) (by decide) U7 HU.out W
              rw [show (3 : Int).toNat = 3 from rfl, show (4 : Int).toNat = 4 from rfl, show (9 : Int).toNat = 9 from rfl, show (14 : Int).toNat = 14 from rfl, ← hU2] at cQ
              replace cQ := Lib.hid cQ
              have HU2 : Hid (Obol.W32 16 U8) := Lib.hid (by rw [hU2]; exact Obol.quaL_w HU.out _ _ _ _)
              have S8 := Lib.hid hU2
              clear hU2
              have hn := Lib.hid (u32s_n HU.out)
              have hn2 := Lib.hid (u32s_n HU2.out)
              go_wp2_with (refine wpList_load_mid rfl _ _ rfl b1 0 rfl (u32s U7).toList _ RV.out.range und53 rfl (by rw [siz53]; simp [hn.out]) ?_)
              rw [Array.toArray_toList]
              refine (cQ.out _).mono ?_
              rintro e wn ⟨rfl, hbn⟩
              have RV2 := RV.out.below hbn RV.out.lt
              have R2 := R.out.below hbn R.out.lt
              have B2 := bThen B.out hbn B.out.size
              have h1 : (u32s U8).all (·.oneCell') = true := u32s_one U8
              have hth : wn.there b1 0 (u32s U8).size := by rw [hn2.out, ← hn.out]; exact RV2.there
              go_upto_region 16 with (refine wpList_store_mid rfl _ _ _ rfl b1 0 (u32s U8) rfl rfl hth (by rw [siz53, hn2.out]) h1 ?_)
              have RVN := Lib.hid (RV2.store (u32s U8) (by rw [hn2.out, hn.out]))
              have RN2 : Hid (Row (wn.setCells b1 0 (u32s U8).toList) b0 (u32s F) 112) := Lib.hid (Row.otherMany (c := b1) (by omega) _ _ _ R2)
              have BN2 : Hid (Below w.heap.size w (wn.setCells b1 0 (u32s U8).toList)) := Lib.hid (bSetMany (by omega) _ _ _ B2)
              generalize wn.setCells b1 0 (u32s U8).toList = y8 at RVN RN2 BN2 ⊢
              have RV := RVN
              have R := RN2
              have B := BN2
              have HU := HU2
              clear RVN RN2 BN2 HU2 hth h1 RV2 R2 B2 hbn cQ hn hn2
              have RN : Hid (Row _ b1 (u32s (Obol.qrnds (j + 1) F)) 112) := Lib.hid (by show Row _ b1 (u32s (Obol.qdias 4 (Obol.qcols 4 (Obol.qrnds j F)))) _; rw [hV.out, Obol.qrnd_eq, ← S0.out, ← S1.out, ← S2.out, ← S3.out, ← S4.out, ← S5.out, ← S6.out, ← S7.out, ← S8.out]; exact RV.out)
              go_wp2_with fail
              go_roundw
              case rel => exact ⟨j + 1, by simp; omega, by omega, RN, R, B⟩
              case measure => simp [intOf]; omega
            · obtain rfl : j = 10 := by omega
              have i1 : ¬ i < 10 := by omega
              generalize hV : Obol.qrnds 10 F = V at RV HV
              replace hV := Lib.hid hV
              have hbw := B.out.size
              have hW16 := Lib.hid (Obol.fin_w V F)
              clear i0 hi
              go_wp2_with fail
              go_loopw [14, 15] (fun q1 q2 wq => ∃ k : Nat, q2 = .int .i64 (k : Int) ∧ k ≤ 16 ∧ Hid (OwnW wq wx.heap.size q1 ((Obol.finL V F).take k)) ∧ Hid (Below wx.heap.size wx wq)) (fun _ q2 _ => (16 - intOf q2).toNat)
              case atStart => exact ⟨0, rfl, by omega, Lib.hid (OwnW.nil _ _), Lib.hid (Below.refl _ _)⟩
              case round =>
                rename World => wq
                obtain ⟨k, rfl, hk, hO, hbq⟩ := hrel
                have hbs2 := hbq.out.size
                obtain ⟨x, hx⟩ : ∃ i : Int, (k : Int) = i := ⟨_, rfl⟩
                rw [hx]
                have x0 : 0 ≤ x := by omega
                by_cases hk8 : k < 16
                · have x1 : x < 16 := by omega
                  obtain ⟨vf, ef, lf, uf⟩ := word_at HF.out (i := x) x0 (by omega)
                  obtain ⟨vv, ev, lv, uv⟩ := word_at HV.out (i := x) x0 (by omega)
                  have RQ := Lib.hid (R.out.below hbq.out R.out.lt)
                  have RP := Lib.hid (RV.out.below hbq.out RV.out.lt)
                  have cf : wq.cell? ⟨b0, x.toNat, none⟩ = some (.int .u32 vf) := RQ.out.cell x.toNat ((u32s_at HF.out x0 (by omega)).trans (by rw [ef]))
                  have cv : wq.cell? ⟨b1, x.toNat, none⟩ = some (.int .u32 vv) := RP.out.cell x.toNat ((u32s_at HV.out x0 (by omega)).trans (by rw [ev]))
                  have hl0 := RQ.out.lt
                  have hl1 := RP.out.lt
                  have hzw : IntKind.u32.wrap (vv + vf) = (vv + vf) % 4294967296 := by rw [IntKind.wrap_u32]
                  obtain ⟨z, hz⟩ : ∃ z : Int, (vv + vf) % 4294967296 = z := ⟨_, rfl⟩
                  have hZ : ((Obol.finL V F).getD k 0 : Nat) = z.toNat := by
                    rw [Obol.fin_get _ _ hk8, ← hz, show k = x.toNat by omega, add2_is ev ef]
                    exact (Int.toNat_natCast _).symm
                  have z0 : 0 ≤ z := by omega
                  have hlk : ((Obol.finL V F).take k).length = k := by rw [List.length_take, hW16.out.len]; omega
                  have et : (Obol.finL V F).take (k + 1) = (Obol.finL V F).take k ++ [z.toNat] := by
                    rw [List.take_add_one, List.getElem?_eq_getElem (by rw [hW16.out.len]; exact hk8)]
                    rw [List.getD_eq_getElem?_getD, List.getElem?_eq_getElem (by rw [hW16.out.len]; exact hk8)] at hZ
                    simp at hZ
                    simp [hZ]
                  replace ef := Lib.hid ef
                  replace ev := Lib.hid ev
                  go_wp2_with fail
                  refine wp_region_noPanic ?_
                  refine wp_region_held_drew (S := fun ww => ww.cell? ⟨b1, x.toNat, none⟩ = some (.int .u32 vv) ∧ ww.cell? ⟨b0, x.toNat, none⟩ = some (.int .u32 vf)) (by kernel_rfl) ?_ (fun hHeld => ?_)
                  · exact ⟨cv, cf⟩
                  refine takeH 0 (fun _ _ _ _ _ h => h) (by kernel_rfl) hHeld rfl (by kernel_rfl) (by rfl) (v := ?_) ?_ ?_
                  rotate_left
                  ((intro wz hz; (try dsimp only at hz); go_simp) <;> with_reducible rfl)
                  try simp only [Act.put, List.setIfInBounds_toArray, List.set_cons_zero, List.set_cons_succ]
                  refine takeH 1 (fun _ _ _ _ _ h => h) (by kernel_rfl) hHeld rfl (by kernel_rfl) (by rfl) (v := ?_) ?_ ?_
                  rotate_left
                  ((intro wz hz; (try dsimp only at hz); go_simp) <;> with_reducible rfl)
                  try simp only [Act.put, List.setIfInBounds_toArray, List.set_cons_zero, List.set_cons_succ]
                  refine takeH 2 (fun _ _ _ _ _ h => h) (by kernel_rfl) hHeld rfl (by kernel_rfl) (by rfl) (v := ?_) ?_ ?_
                  rotate_left
                  ((intro wz hz; (try dsimp only at hz); go_simp) <;> with_reducible rfl)
                  try simp only [Act.put, List.setIfInBounds_toArray, List.set_cons_zero, List.set_cons_succ]
                  refine takeH 3 (fun _ _ _ _ _ h => h) (by kernel_rfl) hHeld rfl (by kernel_rfl) (by rfl) (v := ?_) ?_ ?_
                  rotate_left
                  ((intro wz hz; (try dsimp only at hz); go_simp) <;> with_reducible rfl)
                  try simp only [Act.put, List.setIfInBounds_toArray, List.set_cons_zero, List.set_cons_succ]
                  refine takeH 4 (fun _ _ _ _ _ h => h) (by kernel_rfl) hHeld rfl (by kernel_rfl) (by rfl) (v := ?_) ?_ ?_
                  rotate_left
                  ((intro wz hz; (try dsimp only at hz); go_simp) <;> with_reducible rfl)
                  try simp only [Act.put, List.setIfInBounds_toArray, List.set_cons_zero, List.set_cons_succ]
                  refine takeH 5 (fun _ _ _ _ _ h => h) (by kernel_rfl) hHeld rfl (by kernel_rfl) (by rfl) (v := ?_) ?_ ?_
                  rotate_left
                  ((intro wz hz; (try dsimp only at hz); go_simp) <;> with_reducible rfl)
                  try simp only [Act.put, List.setIfInBounds_toArray, List.set_cons_zero, List.set_cons_succ]
                  refine takeH 6 (fun _ _ _ _ _ h => h) (by kernel_rfl) hHeld rfl (by kernel_rfl) (by rfl) (v := ?_) ?_ ?_
                  rotate_left
                  ((intro wz hz; (try dsimp only at hz); go_simp) <;> with_reducible rfl)
                  try simp only [Act.put, List.setIfInBounds_toArray, List.set_cons_zero, List.set_cons_succ]
                  refine takeH 7 (fun _ _ _ _ _ h => h) (by kernel_rfl) hHeld rfl (by kernel_rfl) (by rfl) (v := ?_) ?_ ?_
                  rotate_left
                  ((intro wz hz; (try dsimp only at hz); go_simp) <;> with_reducible rfl)
                  try simp only [Act.put, List.setIfInBounds_toArray, List.set_cons_zero, List.set_cons_succ]
                  refine stepH 8 (by kernel_rfl) rfl (by rfl) (fun K hK => ?_)
                  go_simp
                  refine hK.out _ _ ?_ (fun hHeld => ?_)
                  · exact ⟨wcell cv (bAlloc (bDrew (Below.refl _ wq)) (.cells #[.int .u32 z] 91)) hl1, wcell cf (bAlloc (bDrew (Below.refl _ wq)) (.cells #[.int .u32 z] 91)) hl0⟩
                  clear hK K
                  try simp only [Act.put, List.setIfInBounds_toArray, List.set_cons_zero, List.set_cons_succ]
                  refine stepH 9 (by kernel_rfl) rfl (by rfl) (fun K hK => ?_)
                  obtain ⟨v', w', hap, hO', hb'⟩ := append_ownW (wq.drew.alloc (.cells #[.int .u32 z] 91)) wx.heap.size _ _ [z.toNat] (hO.out.keep (bAlloc (bDrew (Below.refl _ wq)) (.cells #[.int .u32 z] 91)) (Nat.le_refl _)) ⟨wq.heap.size, 0, none⟩ 1 1 rfl (newsW wq.drew z z0) (by rw [hlk]; simp; omega) (by simp; omega)
                  rw [← et] at hO'
                  have HO := Lib.hid hO'
                  have HQ := Lib.hid (hbq.out.trans (((bDrew (Below.refl wx.heap.size wq)).alloc (by simpa using hbs2) _).trans hb'))
                  refine wp_appended _ _ _ _ rfl _ _ _ rfl rfl hap ?_
                  refine hK.out _ _ ?_ (fun hHeld => ?_)
                  · exact ⟨(RV.out.below HQ.out RV.out.lt).cell x.toNat ((u32s_at HV.out x0 (by omega)).trans (by rw [ev.out])), (R.out.below HQ.out R.out.lt).cell x.toNat ((u32s_at HF.out x0 (by omega)).trans (by rw [ef.out]))⟩
                  clear hK K
                  try simp only [Act.put, List.setIfInBounds_toArray, List.set_cons_zero, List.set_cons_succ]
                  refine takeH 10 (fun _ _ _ _ _ h => h) (by kernel_rfl) hHeld rfl (by kernel_rfl) (by rfl) (v := ?_) ?_ ?_
                  rotate_left
                  ((intro wz hz; (try dsimp only at hz); go_simp) <;> with_reducible rfl)
                  try simp only [Act.put, List.setIfInBounds_toArray, List.set_cons_zero, List.set_cons_succ]
                  refine wpAnyH_done (by kernel_rfl) (NoPanic.normal ?_) _
                  clear hHeld hO' hb' hap hlk et hO
                  go_wp2_with fail
                  go_roundw
                  case rel => exact ⟨k + 1, by simp; omega, by omega, HO, HQ⟩
                  case measure => simp [intOf]; omega
                · obtain rfl : k = 16 := by omega
                  have x1 : ¬ x < 16 := by omega
                  have ht8 : (Obol.finL V F).take 16 = Obol.finL V F := List.take_of_length_le (by rw [hW16.out.len]; exact Nat.le_refl _)
                  rw [ht8] at hO
                  obtain ⟨gv, cv, rfl, hgv, hgv2, -, hWL⟩ := hO.out.size (by rw [hW16.out.len]; decide)
                  rw [hW16.out.len]
                  have BQ := Lib.hid (bThen B.out hbq.out B.out.size)
                  have cB := Lib.hid (r5Bytes gv 16 cv (Obol.finL V F) hW16.out (by decide) wq hgv2 hWL)
                  have hbq2 := BQ.out.size
                  clear hO hWL hgv hgv2 ht8
                  go_wp2_with fail
                  refine cB.out.mono ?_
                  rintro e w9 ⟨v, rfl, hOB, hb9⟩
                  have HO := Lib.hid (hOB.base (base' := w.heap.size) hbq2)
                  have HB := Lib.hid (bThen BQ.out hb9 BQ.out.size)
                  clear hOB hb9
                  go_wp2_with fail
                  go_ret
                  exact ⟨_, rfl, by have h := HO.out; rw [hFF.out] at hV; show OwnB _ _ _ (Obol.wordsB (Obol.finL (Obol.qrnds 10 (Obol.frstL K N count.toNat)) (Obol.frstL K N count.toNat))); rw [hV.out, ← hFF.out]; exact h, HB.out⟩

end Go.Proofs.YtallfmiikjmgaaaDoor
