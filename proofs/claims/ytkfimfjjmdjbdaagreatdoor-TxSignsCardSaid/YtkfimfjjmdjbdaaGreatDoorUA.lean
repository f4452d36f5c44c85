import Derived.Test.YtkfimfjjmdjbdaaGreatDoorUz
set_option linter.unusedVariables false
set_option linter.unusedSimpArgs false
set_option linter.unusedSectionVars false
/- Walks: the reference of layer 5: a block is pressed. -/
namespace Obol
theorem words_msg (B : List Nat) : wordsOf B 16 = msgL B 0 := by
 unfold wordsOf msgL
 simp only [Nat.zero_add]
theorem rnd_eq (M V : List Nat) (i : Nat) : dias M i 4 (cols M i 4 V) =
  mixL (mixL (mixL (mixL (mixL (mixL (mixL (mixL V 0 4 8 12 (M.getD (rowAt i 0) 0) (M.getD (rowAt i 1) 0)) 1 5 9 13 (M.getD (rowAt i 2) 0) (M.getD (rowAt i 3) 0)) 2 6 10 14 (M.getD (rowAt i 4) 0) (M.getD (rowAt i 5) 0)) 3 7 11 15 (M.getD (rowAt i 6) 0) (M.getD (rowAt i 7) 0))
   0 5 10 15 (M.getD (rowAt i 8) 0) (M.getD (rowAt i 9) 0)) 1 6 11 12 (M.getD (rowAt i 10) 0) (M.getD (rowAt i 11) 0)) 2 7 8 13 (M.getD (rowAt i 12) 0) (M.getD (rowAt i 13) 0)) 3 4 9 14 (M.getD (rowAt i 14) 0) (M.getD (rowAt i 15) 0) := rfl
end Obol
namespace Go.Proofs.YtkfimfjjmdjbdaaGreatDoor
open Go.RowKit

theorem cell_setCells {b c j : Nat} (hne : c ≠ b) : ∀ (vs : List Value) (o : Nat) (w : World), (w.setCells b o vs).cell? ⟨c, j, none⟩ = w.cell? ⟨c, j, none⟩
 | [], _, _ => rfl
 | v :: r, o, w => (cell_setCells hne r (o + 1) _).trans (World.cell?_setCell_other w ⟨b, o, none⟩ ⟨c, j, none⟩ v (fun e => hne (by cases e; rfl)))
theorem Row.otherMany {b c : Nat} {cs : Array Value} {t : TypeId} (hne : b ≠ c) : ∀ (vs : List Value) (o : Nat) (w : World), Row w b cs t → Row (w.setCells c o vs) b cs t
 | [], _, _, h => h
 | _ :: r, o, _, h => Row.otherMany hne r (o + 1) _ (h.other hne)

/-- The blocks of the reference's Press. -/
structure PQ (w wr : World) (b0 b8 g b10 b11 : Nat) (h M V : List Nat) : Prop where
 ord : w.heap.size = b0 ∧ b0 + 1 = b8 ∧ b8 < g ∧ g < b10 ∧ b10 + 1 = b11
 rh : Row wr b0 (u32s h) 96
 rr : Row wr b8 (u32s (zs 8)) 96
 rm : WL wr g 0 M
 rf : Row wr b10 (u32s Obol.firstL) 96
 rv : Row wr b11 (u32s V) 120
 bw : Below w.heap.size w wr
section
variable {w wr w2 : World} {b0 b8 g b10 b11 : Nat} {h M V V' : List Nat} (p : PQ w wr b0 b8 g b10 b11 h M V)
include p
theorem PQ.drewN (n : Nat) : PQ w (wr.drewN n) b0 b8 g b10 b11 h M V := ⟨p.ord, p.rh, p.rr, p.rm, p.rf, p.rv, bDrewN p.bw n⟩
theorem PQ.drew : PQ w wr.drew b0 b8 g b10 b11 h M V := ⟨p.ord, p.rh, p.rr, p.rm, p.rf, p.rv, bDrew p.bw⟩
theorem PQ.wlo {b j : Nat} {v : Value} (hne : b ≠ g) : WL (wr.setCell ⟨b, j, none⟩ v) g 0 M := fun i hi => (World.cell?_setCell_other wr ⟨b, j, none⟩ ⟨g, 0 + i, none⟩ v (fun e => hne (by cases e; rfl))).trans (p.rm i hi)
theorem PQ.setV (i Z : Nat) {z : Int} (hz : z = (Z : Int)) : PQ w (wr.setCell ⟨b11, i, none⟩ (.int .u32 z)) b0 b8 g b10 b11 h M (V.set i Z) := by
 have o := p.ord
 exact ⟨o, p.rh.other (by omega), p.rr.other (by omega), p.wlo (by omega), p.rf.other (by omega), rowSet p.rv i Z hz, bSet p.bw (by omega)⟩
theorem PQ.setH (i Z : Nat) {z : Int} (hz : z = (Z : Int)) : PQ w (wr.setCell ⟨b0, i, none⟩ (.int .u32 z)) b0 b8 g b10 b11 (h.set i Z) M V := by
 have o := p.ord
 exact ⟨o, rowSet p.rh i Z hz, p.rr.other (by omega), p.wlo (by omega), p.rf.other (by omega), p.rv.other (by omega), bSet p.bw (by omega)⟩
theorem PQ.storeV (hs : (u32s V').size = (u32s V).size) : PQ w (wr.setCells b11 0 (u32s V').toList) b0 b8 g b10 b11 h M V' := by
 have o := p.ord
 exact ⟨o, Row.otherMany (c := b11) (by omega) _ _ _ p.rh, Row.otherMany (c := b11) (by omega) _ _ _ p.rr, fun i hi => (cell_setCells (b := b11) (by omega) _ _ _).trans (p.rm i hi), Row.otherMany (c := b11) (by omega) _ _ _ p.rf, p.rv.store (u32s V') hs, bSetMany (by omega) _ _ _ p.bw⟩
theorem PQ.next (hb : Below wr.heap.size wr w2) : PQ w w2 b0 b8 g b10 b11 h M V := by
 have o := p.ord
 exact ⟨o, p.rh.below hb p.rh.lt, p.rr.below hb p.rr.lt, p.rm.below hb (by have := p.rv.lt; omega), p.rf.below hb p.rf.lt, p.rv.below hb p.rv.lt, bThen p.bw hb p.bw.size⟩
end
theorem IL.at {w : World} {b i : Nat} (h : IL w b i) (k : Nat) (hk : k < 16) : ∃ r : Int, w.cell? ⟨b, k, none⟩ = some (.int .i64 r) ∧ r.toNat = Obol.rowAt i k ∧ 0 ≤ r ∧ r < 16 :=
 ⟨_, h k hk, by omega, by omega, by have := Obol.rowAt_lt i k; omega⟩
theorem PQ.word {w wr : World} {b0 b8 g b10 b11 : Nat} {h M V : List Nat} (p : PQ w wr b0 b8 g b10 b11 h M V) (HM : Obol.W32 16 M) {r : Int} (r0 : 0 ≤ r) (r1 : r < 16) :
  ∃ x : Int, wr.cell? ⟨g, r.toNat, none⟩ = some (.int .u32 x) ∧ x.toNat = M.getD r.toNat 0 ∧ 0 ≤ x := by
 refine ⟨((M.getD r.toNat 0 : Nat) : Int), ?_, by omega, by omega⟩
 have := p.rm r.toNat (by rw [HM.len]; omega)
 rwa [Nat.zero_add] at this
theorem u32s_n {n : Nat} {L : List Nat} (h : Obol.W32 n L) : (u32s L).size = n := by unfold u32s; simp [h.len]
theorem u32s_one (L : List Nat) : (u32s L).all (·.oneCell') = true := by
 have : (u32s L).toList.toArray.all (·.oneCell') = true := all_oneCell_toArray (by unfold u32s; simp; intro v _; rfl)
 rwa [Array.toArray_toList] at this
theorem r5FirstL (w : World) :
  Calls Tryz.prog 58 #[] w fun e w' => e = .returned (.agg #[.int .u32 1779033703, .int .u32 3144134277, .int .u32 1013904242, .int .u32 2773480762, .int .u32 1359893119, .int .u32 2600822924, .int .u32 528734635, .int .u32 1541459225]) ∧ Below w.heap.size w w' := r5First w
theorem und16 : Tryz.prog.underlying 120 = some (.array 16 88) := by kernel_rfl
theorem siz16 : (Tryz.prog.info? 120).map (·.size) = some 16 := by kernel_rfl
theorem rMixN (a b c d : Int) (A B C D : Nat) (ha : 0 ≤ a ∧ a < 16 ∧ a.toNat = A) (hb : 0 ≤ b ∧ b < 16 ∧ b.toNat = B) (hc : 0 ≤ c ∧ c < 16 ∧ c.toNat = C) (hd : 0 ≤ d ∧ d < 16 ∧ d.toNat = D) (x y : Int) (hx : 0 ≤ x) (hy : 0 ≤ y) (X Y : Nat) (ex : x.toNat = X) (ey : y.toNat = Y) (U U' : List Nat) (H : Obol.W32 16 U) (hU : U' = Obol.mixL U A B C D X Y) (W : World) :
  Calls Tryz.prog 86 #[.agg (u32s U), .int .i64 a, .int .i64 b, .int .i64 c, .int .i64 d, .int .u32 x, .int .u32 y] W fun e w' => e = .returned (.agg (u32s U')) ∧ Below W.heap.size W w' := by
 have h := rMix a b c d ha.1 hb.1 hc.1 hd.1 ha.2.1 hb.2.1 hc.2.1 hd.2.1 x y hx hy U H W
 rw [ex, ey, ha.2.2, hb.2.2, hc.2.2, hd.2.2, ← hU] at h
 exact h
theorem IL.lt {w : World} {b i : Nat} (h : IL w b i) : b < w.heap.size := World.block_lt_of_cell? w ⟨b, 0, none⟩ (h 0 (by decide))
theorem IL.store {w : World} {b i c o : Nat} {vs : List Value} (h : IL w b i) (hne : b ≠ c) : IL (w.setCells c o vs) b i := fun k hk => (cell_setCells hne _ _ _).trans (h k hk)

set_option maxRecDepth 8000 in
set_option maxHeartbeats 4000000 in
theorem r5Press (h B : List Nat) (Hh : Obol.W32 8 h) (HB : B8 64 B) (count : Int) (k0 : 0 ≤ count) (k1 : count ≤ 18446744073709551615) (last : Bool) (b o cap : Nat) (w : World) (hb0 : b < w.heap.size) (hBL : BL w b o B) :
  Calls Tryz.prog 59 #[.agg (u32s h), .slice (some ⟨b, o, none⟩) 64 cap, .int .u64 count, .bool last] w fun e w' => e = .returned (.agg (u32s (Obol.pressL h (Obol.msgL B 0) count.toNat last))) ∧ Below w.heap.size w w' := by
 have Hh := Lib.hid Hh
 have HB := Lib.hid HB
 have hC := Lib.hid hBL
 have HM : Hid (Obol.W32 16 (Obol.msgL B 0)) := Lib.hid (Obol.msgL_w B HB.out.lt 0)
 have cW := fun W (hb : b < W.heap.size) (hc : BL W b o B) => r5Words b o 64 cap B 16 (by omega) (by omega) HB.out (by omega) W hb hc
 rw [Obol.words_msg] at cW
 obtain ⟨M, hM0⟩ : ∃ M, Obol.msgL B 0 = M := ⟨_, rfl⟩
 have HM0 := Lib.hid hM0
 rw [hM0] at cW HM
 replace cW := Lib.hid cW
 clear hM0 hBL
 go_enter Tryz.func59, Tryz.ntmps59
 go_wp2_with fail
 change Calls _ _ _ ((w.alloc (.cells (u32s h) 96)).alloc (.cells (u32s (zs 8)) 96)) _
 have R0 := Lib.hid ((Row.new w (u32s h) 96).alloc (.cells (u32s (zs 8)) 96))
 have R8 : Hid (Row ((w.alloc (.cells (u32s h) 96)).alloc (.cells (u32s (zs 8)) 96)) (w.heap.size + 1) (u32s (zs 8)) 96) := Lib.hid (Row.newAt (u32s (zs 8)) 96 (by simp))
 have B0 := Lib.hid (bAlloc (bAlloc (Below.refl _ w) (.cells (u32s h) 96)) (.cells (u32s (zs 8)) 96))
 have hz : ((w.alloc (.cells (u32s h) 96)).alloc (.cells (u32s (zs 8)) 96)).heap.size = w.heap.size + 2 := by simp
 generalize (w.alloc (.cells (u32s h) 96)).alloc (.cells (u32s (zs 8)) 96) = w0 at R0 R8 B0 hz ⊢
 generalize hb8 : w.heap.size + 1 = b8 at R8 ⊢
 replace hb8 := Lib.hid hb8
 replace hz := Lib.hid hz
 refine (cW.out w0 (Nat.lt_of_lt_of_le hb0 B0.out.size) (hC.out.below B0.out hb0)).mono ?_
 rintro e w1 ⟨v, rfl, hO, hb1⟩
 obtain ⟨g, cap2, rfl, hg0, hg1, hg2, hWL⟩ := hO.size (by rw [HM.out.len]; decide)
 rw [HM.out.len]
 rw [hz.out] at hg0
 replace R0 := Lib.hid (R0.out.below hb1 R0.out.lt)
 replace R8 := Lib.hid (R8.out.below hb1 R8.out.lt)
 replace B0 := Lib.hid (bThen B0.out hb1 B0.out.size)
 replace hWL := Lib.hid hWL
 have hg3 := Lib.hid hg2
 clear hO hb1 hg2
 go_wp2_with fail
 refine (r5FirstL _).mono ?_
 rintro e w2 ⟨rfl, hb2⟩
 replace R0 := Lib.hid (R0.out.below hb2 R0.out.lt)
 replace R8 := Lib.hid (R8.out.below hb2 R8.out.lt)
 replace B0 := Lib.hid (bThen B0.out hb2 B0.out.size)
 replace hWL := Lib.hid (hWL.out.below hb2 hg1)
 have hg4 := Nat.lt_of_lt_of_le hg1 hb2.size
 clear hb2 hg1
 go_wp2_with fail
 change Code.wp _ _ _ _ ((w2.alloc (.cells (u32s Obol.firstL) 96)).alloc (.cells (u32s (zs 16)) 120))
 have P : Hid (PQ w ((w2.alloc (.cells (u32s Obol.firstL) 96)).alloc (.cells (u32s (zs 16)) 120)) w.heap.size b8 g w2.heap.size (w2.heap.size + 1) h M (zs 16)) := Lib.hid
  ⟨⟨rfl, hb8.out, by have := hb8.out; omega, hg4, rfl⟩, (R0.out.alloc _).alloc _, (R8.out.alloc _).alloc _, hWL.out.below (bAlloc (bAlloc (Below.refl _ w2) _) _) hg4, (Row.new w2 (u32s Obol.firstL) 96).alloc _,
   Row.newAt (u32s (zs 16)) 120 (by simp), B0.out.trans ((bAlloc (bAlloc (Below.refl _ w2) _) _).mono B0.out.size)⟩
 generalize (w2.alloc (.cells (u32s Obol.firstL) 96)).alloc (.cells (u32s (zs 16)) 120) = wz at P ⊢
 generalize w2.heap.size + 1 = b11 at P ⊢
 generalize w2.heap.size = b10 at P ⊢
 obtain ⟨b0, hbb⟩ : ∃ b, w.heap.size = b := ⟨_, rfl⟩
 replace P : Hid (PQ w wz b0 b8 g b10 b11 h M (zs 16)) := Lib.hid (hbb ▸ P.out)
 rw [hbb]
 replace hbb := Lib.hid hbb
 clear R0 R8 B0 hWL hg4 hg0 hb8 hz cW hC hb0
 go_loopw [12] (fun q1 wr => ∃ (i : Int) (V : List Nat), q1 = .int .i64 i ∧ Hid (StaI h V i) ∧ Hid (PQ w wr b0 b8 g b10 b11 h M V)) (fun q1 _ => (8 - intOf q1).toNat)
 case atStart => exact ⟨0, zs 16, rfl, Lib.hid ⟨by omega, by omega, zs_w 16, fun j hj => by omega⟩, P⟩
 case round =>
  clear P
  obtain ⟨i, V, rfl, HI, P⟩ := hrel
  have i0 := HI.out.1
  have i1 := HI.out.2.1
  by_cases hi : i < 8
  ·have HN := Lib.hid (HI.out.step Hh.out hi)
   obtain ⟨vh, eh, lh, uh⟩ := word_at Hh.out (i := i) i0 (by omega)
   obtain ⟨vf, ef, lf, uf⟩ := word_at first_w (i := i) i0 (by omega)
   have ch : wr.cell? ⟨b0, i.toNat, none⟩ = some (.int .u32 vh) := P.out.rh.cell i.toNat ((u32s_at Hh.out i0 hi).trans (by rw [eh]))
   have hf1 := P.out.rv.free i.toNat
   have hf2 := P.out.rv.free (8 + i.toNat)
   have hc1 := P.out.rv.cell i.toNat (u32s_at HI.out.2.2.1 i0 (by omega))
   have hc2 := P.out.rv.cell (8 + i.toNat) (u32s_get HI.out.2.2.1 (8 + i.toNat) (by omega))
   have P1 := P.out.setV i.toNat _ eh.symm
   have cf : (wr.setCell ⟨b11, i.toNat, none⟩ (.int .u32 vh)).cell? ⟨b10, i.toNat, none⟩ = some (.int .u32 vf) := P1.rf.cell i.toNat ((u32s_at first_w i0 hi).trans (by rw [ef]))
   have PN := Lib.hid (P1.setV (8 + i.toNat) _ ef.symm)
   have e8 : 8 + i.toNat = (8 + i).toNat := by omega
   have w8 := wrap_small (x := 8 + i) (by omega) (by omega)
   rw [e8] at hf2 hc2 PN HN
   clear eh ef e8 P1
   go_wp2_with fail
   go_roundw
   case rel => exact ⟨_, _, rfl, HN, PN⟩
   case measure => simp [intOf]; omega
  ·obtain rfl : i = 8 := by omega
   obtain rfl := HI.out.done Hh.out
   clear HI
   have HV := Lib.hid (app_w Hh.out first_w)
   obtain ⟨V0, hV0⟩ : ∃ l, l = h ++ Obol.firstL := ⟨_, rfl⟩
   rw [← hV0] at P HV
   -- the counter
   obtain ⟨q12, e12, l12, u12⟩ := word_at HV.out (i := 12) (by omega) (by omega)
   have c12 : wr.cell? ⟨b11, 12, none⟩ = some (.int .u32 q12) := P.out.rv.cell 12 ((u32s_get HV.out 12 (by omega)).trans (by rw [← e12]; rfl))
   have f12 := P.out.rv.free 12
   have hx12 := xor_eq e12 (q := count % 4294967296) (Q := count.toNat % 4294967296) (by omega) (HV.out.lt _) (by omega)
   obtain ⟨z12, hz12⟩ : ∃ z : Int, bits .xor .u32 q12 (count % 4294967296) = z := ⟨_, rfl⟩
   rw [hz12] at hx12
   obtain ⟨V1, hV1⟩ : ∃ l, l = V0.set 12 (V0.getD 12 0 ^^^ count.toNat % 4294967296) := ⟨_, rfl⟩
   have P1 := Lib.hid (P.out.setV 12 _ hx12)
   have HV1 := Lib.hid (HV.out.set 12 _ (Obol.xor_lt (HV.out.lt 12) (Nat.mod_lt count.toNat (by decide : 4294967296 > 0))))
   rw [show (12 : Int).toNat = 12 from rfl, ← hV1] at P1
   rw [← hV1] at HV1
   obtain ⟨q13, e13, l13, u13⟩ := word_at HV1.out (i := 13) (by omega) (by omega)
   have c13 : (wr.setCell ⟨b11, 12, none⟩ (.int .u32 z12)).cell? ⟨b11, 13, none⟩ = some (.int .u32 q13) := P1.out.rv.cell 13 ((u32s_get HV1.out 13 (by omega)).trans (by rw [← e13]; rfl))
   have f13 := P1.out.rv.free 13
   replace P1 := Lib.hid P1
   replace HV1 := Lib.hid HV1
   have hx13 := xor_eq e13 (q := count / 4294967296) (Q := count.toNat / 4294967296 % 4294967296) (by omega) (HV1.out.lt _) (by omega)
   obtain ⟨z13, hz13⟩ : ∃ z : Int, bits .xor .u32 q13 (count / 4294967296) = z := ⟨_, rfl⟩
   rw [hz13] at hx13
   obtain ⟨V2, hV2⟩ : ∃ l, l = V1.set 13 (V1.getD 13 0 ^^^ count.toNat / 4294967296 % 4294967296) := ⟨_, rfl⟩
   have P2 := Lib.hid (P1.out.setV 13 _ hx13)
   have HV2 := Lib.hid (HV1.out.set 13 _ (Obol.xor_lt (HV1.out.lt 13) (Nat.mod_lt (count.toNat / 4294967296) (by decide : 4294967296 > 0))))
   rw [show (13 : Int).toNat = 13 from rfl, ← hV2] at P2
   rw [← hV2] at HV2
   have hC : Hid (V2 = Obol.count12 (h ++ Obol.firstL) count.toNat) := Lib.hid (by rw [← hV0]; unfold Obol.count12; rw [← hV1]; exact hV2)
   obtain ⟨q14, e14, l14, u14⟩ := word_at HV2.out (i := 14) (by omega) (by omega)
   have c14 : ((wr.setCell ⟨b11, 12, none⟩ (.int .u32 z12)).setCell ⟨b11, 13, none⟩ (.int .u32 z13)).cell? ⟨b11, 14, none⟩ = some (.int .u32 q14) := P2.out.rv.cell 14 ((u32s_get HV2.out 14 (by omega)).trans (by rw [← e14]; rfl))
   have f14 := P2.out.rv.free 14
   clear hx12 e12 hx13 e13 hV0 hV1 hV2 HV1 P1 HV P
   go_upto_if 48 with fail
   go_cut [] (fun wc => ∃ V, Hid (V = Obol.startV h count.toNat last ∧ Obol.W32 16 V) ∧ Hid (PQ w wc b0 b8 g b10 b11 h M V))
   case first =>
    cases last
    ·go_wp2_with fail
     go_meet
     exact ⟨V2, Lib.hid ⟨by rw [hC.out]; rfl, HV2.out⟩, P2⟩
    ·have hx14 := xor_eq (p := q14) (q := 4294967295) (P := V2.getD 14 0) (Q := 4294967295) e14 rfl (HV2.out.lt _) (by decide)
     have P3 := Lib.hid (P2.out.setV 14 _ hx14)
     have HV3 := Lib.hid (HV2.out.set 14 _ (Obol.xor_lt (HV2.out.lt 14) (by decide : 4294967295 < 4294967296)))
     have hS : Hid (V2.set 14 (V2.getD 14 0 ^^^ 4294967295) = Obol.startV h count.toNat true) := Lib.hid (by unfold Obol.startV; rw [← hC.out]; rfl)
     clear hx14 e14
     go_wp2_with fail
     go_meet
     exact ⟨_, Lib.hid ⟨hS.out, HV3.out⟩, P3⟩
   case' rest =>
    clear P2 HV2 hC e14 c12 f12 c13 f13 c14 f14 hz12 hz13
    rename World => wz
    obtain ⟨VS, HS, P⟩ := hcut
    have HV2 := Lib.hid HS.out.2
    go_wp2_with fail
    go_loopw [13] (fun q1 wr => ∃ (i : Int) (V : List Nat), q1 = .int .i64 i ∧ Hid (RndI M VS V i) ∧ Hid (PQ w wr b0 b8 g b10 b11 h M V)) (fun q1 _ => (10 - intOf q1).toNat)
    case atStart => exact ⟨0, VS, rfl, Lib.hid ⟨by omega, by omega, rfl, HV2.out⟩, P⟩
    case round =>
     clear P HV2
     obtain ⟨i, V, rfl, HI, P⟩ := hrel
     have i0 := HI.out.1
     have i1 := HI.out.2.1
     by_cases hi : i < 10
     ·have cR := Lib.hid (fun W => r5Row i i0 hi W)
      go_wp2_with fail
      refine (cR.out _).mono ?_
      rintro e w3 ⟨rfl, hIL, hgs, hb3⟩
      have P0 := Lib.hid (P.out.next hb3)
      have hI := Lib.hid hIL
      have hgb := P.out.rv.lt
      obtain ⟨gs, hgs0⟩ : ∃ z, wr.heap.size = z := ⟨_, rfl⟩
      rw [hgs0] at hI hgb ⊢
      have HU := Lib.hid HI.out.2.2.2
      obtain ⟨U0, hU00⟩ : ∃ l, l = V := ⟨_, rfl⟩
      rw [← hU00] at HU P0
      have HU00 := Lib.hid hU00
      clear hIL hgs hb3 hgs0 P cR hU00
      obtain ⟨r1, g1, er1, r10, r11⟩ := hI.out.at 0 (by decide)
      obtain ⟨r2, g2, er2, r20, r21⟩ := hI.out.at 1 (by decide)
      obtain ⟨x, g3, ex, x0⟩ := P0.out.word HM.out r10 r11
      obtain ⟨y, g4, ey, y0⟩ := P0.out.word HM.out r20 r21
      rw [er1] at ex
      rw [er2] at ey
      obtain ⟨U1, hU⟩ : ∃ l, l = Obol.mixL U0 0 4 8 12 (M.getD (Obol.rowAt i.toNat 0) 0) (M.getD (Obol.rowAt i.toNat 1) 0) := ⟨_, rfl⟩
      have cM := Lib.hid (fun W => rMixN 0 4 8 12 0 4 8 12 (by decide) (by decide) (by decide) (by decide) x y x0 y0 _ _ ex ey U0 U1 HU.out hU W)
      have HU2 : Hid (Obol.W32 16 U1) := Lib.hid (by rw [hU]; exact mixL_w HU.out _ _ _ _ _ _)
      have Q0 := Lib.hid hU
      have hn : Hid ((u32s U0).size = 16) := Lib.hid (u32s_n HU.out)
      have hn2 : Hid ((u32s U1).size = 16) := Lib.hid (u32s_n HU2.out)
      have hgl := hI.out.lt
      have hgg : g < w3.heap.size := by have := P0.out.ord; omega
      have hg11 : g < b11 := by have := P0.out.ord; omega
      clear er1 er2 ex ey hU
      go_wp2_with fail
      refine wp_region_noPanic ?_
      refine wp_region_held_drew (S := fun wq => wq.cell? ⟨gs, 0, none⟩ = some (.int .i64 r1) ∧ wq.cell? ⟨gs, 1, none⟩ = some (.int .i64 r2) ∧ wq.cell? ⟨g, r1.toNat, none⟩ = some (.int .u32 x) ∧ wq.cell? ⟨g, r2.toNat, none⟩ = some (.int .u32 y)) (by kernel_rfl) ?_ (fun hHeld => ?_)
      ·exact ⟨g1, g2, g3, g4⟩
      refine tk 1 hHeld ?_; refine tk 2 hHeld ?_; refine tk 3 hHeld ?_; refine tk 4 hHeld ?_; refine tk 5 hHeld ?_; refine tk 6 hHeld ?_; refine tk 7 hHeld ?_; refine tk 8 hHeld ?_; refine tk 9 hHeld ?_; refine tk 10 hHeld ?_; refine tk 11 hHeld ?_; refine tk 12 hHeld ?_
      refine stepH 0 (by kernel_rfl) rfl (by rfl) (fun K hK => ?_)
      refine wp_load_mid _ _ rfl b11 0 rfl (u32s U0).toList _ P0.out.drew.rv.range und16 rfl (by rw [siz16]; simp [hn.out]) ?_
      rw [Array.toArray_toList]
      refine hK.out _ _ ?_ (fun hHeld => ?_)
      ·exact ⟨g1, g2, g3, g4⟩
      clear hK K
      try simp only [Act.put, List.setIfInBounds_toArray, List.set_cons_zero, List.set_cons_succ]
      refine stepH 13 (by kernel_rfl) rfl (by rfl) (fun K hK => ?_)
      go_simp
      refine (cM.out _).mono ?_
      rintro e wn ⟨rfl, hb⟩
      have hbn : Hid (Below w3.heap.size w3 wn) := Lib.hid (bThen (bDrew (Below.refl _ w3)) hb (Nat.le_refl _))
      refine hK.out _ _ ?_ (fun hHeld => ?_)
      ·exact ⟨wcell g1 hbn.out hgl, wcell g2 hbn.out hgl, wcell g3 hbn.out hgg, wcell g4 hbn.out hgg⟩
      clear hK K
      try simp only [Act.put, List.setIfInBounds_toArray, List.set_cons_zero, List.set_cons_succ]
      have PN := Lib.hid (P0.out.next hbn.out)
      have hth : wn.there b11 0 (u32s U1).size := by rw [hn2.out, ← hn.out]; exact PN.out.rv.there
      refine stepH 14 (by kernel_rfl) rfl (by rfl) (fun K hK => ?_)
      refine wp_store_mid _ _ _ rfl b11 0 (u32s U1) rfl rfl hth (by rw [siz16, hn2.out]) (u32s_one U1) ?_
      have hne1 : gs ≠ b11 := by omega
      have hne2 : g ≠ b11 := by omega
      refine hK.out _ _ ?_ (fun hHeld => ?_)
      ·exact ⟨(cell_setCells hne1 _ _ _).trans (wcell g1 hbn.out hgl), (cell_setCells hne1 _ _ _).trans (wcell g2 hbn.out hgl), (cell_setCells hne2 _ _ _).trans (wcell g3 hbn.out hgg), (cell_setCells hne2 _ _ _).trans (wcell g4 hbn.out hgg)⟩
      clear hK K
      try simp only [Act.put, List.setIfInBounds_toArray, List.set_cons_zero, List.set_cons_succ]
      refine wpAnyH_done (by kernel_rfl) (NoPanic.normal ?_) _
      have P1 := Lib.hid (PN.out.storeV (V' := U1) (by rw [hn2.out, hn.out]))
      have hI2 := Lib.hid ((hI.out.below hbn.out hgl).store (c := b11) (o := 0) (vs := (u32s U1).toList) hne1)
      clear cM hHeld hbn hth PN P0 hI HU hn hn2 g1 g2 g3 g4 hb hne1 hne2 hgl hgg hg11 r10 r11 r20 r21 x0 y0
      generalize wn.setCells b11 0 (u32s U1).toList = v1 at P1 hI2 ⊢
      have hI := hI2
      have HU := HU2
      clear hI2 HU2
      obtain ⟨r1, g1, er1, r10, r11⟩ := hI.out.at 2 (by decide)
      obtain ⟨r2, g2, er2, r20, r21⟩ := hI.out.at 3 (by decide)
      obtain ⟨x, g3, ex, x0⟩ := P1.out.word HM.out r10 r11
      obtain ⟨y, g4, ey, y0⟩ := P1.out.word HM.out r20 r21
      rw [er1] at ex
      rw [er2] at ey
      obtain ⟨U2, hU⟩ : ∃ l, l = Obol.mixL U1 1 5 9 13 (M.getD (Obol.rowAt i.toNat 2) 0) (M.getD (Obol.rowAt i.toNat 3) 0) := ⟨_, rfl⟩
      have cM := Lib.hid (fun W => rMixN 1 5 9 13 1 5 9 13 (by decide) (by decide) (by decide) (by decide) x y x0 y0 _ _ ex ey U1 U2 HU.out hU W)
      have HU2 : Hid (Obol.W32 16 U2) := Lib.hid (by rw [hU]; exact mixL_w HU.out _ _ _ _ _ _)
      have Q1 := Lib.hid hU
      have hn : Hid ((u32s U1).size = 16) := Lib.hid (u32s_n HU.out)
      have hn2 : Hid ((u32s U2).size = 16) := Lib.hid (u32s_n HU2.out)
      have hgl := hI.out.lt
      have hgg : g < v1.heap.size := by have := P1.out.ord; omega
      have hg11 : g < b11 := by have := P1.out.ord; omega
      clear er1 er2 ex ey hU
      go_wp2_with fail
      refine wp_region_noPanic ?_
      refine wp_region_held_drew (S := fun wq => wq.cell? ⟨gs, 2, none⟩ = some (.int .i64 r1) ∧ wq.cell? ⟨gs, 3, none⟩ = some (.int .i64 r2) ∧ wq.cell? ⟨g, r1.toNat, none⟩ = some (.int .u32 x) ∧ wq.cell? ⟨g, r2.toNat, none⟩ = some (.int .u32 y)) (by kernel_rfl) ?_ (fun hHeld => ?_)
      ·exact ⟨g1, g2, g3, g4⟩
      refine tk 1 hHeld ?_; refine tk 2 hHeld ?_; refine tk 3 hHeld ?_; refine tk 4 hHeld ?_; refine tk 5 hHeld ?_; refine tk 6 hHeld ?_; refine tk 7 hHeld ?_; refine tk 8 hHeld ?_; refine tk 9 hHeld ?_; refine tk 10 hHeld ?_; refine tk 11 hHeld ?_; refine tk 12 hHeld ?_
      refine stepH 0 (by kernel_rfl) rfl (by rfl) (fun K hK => ?_)
      refine wp_load_mid _ _ rfl b11 0 rfl (u32s U1).toList _ P1.out.drew.rv.range und16 rfl (by rw [siz16]; simp [hn.out]) ?_
      rw [Array.toArray_toList]
      refine hK.out _ _ ?_ (fun hHeld => ?_)
      ·exact ⟨g1, g2, g3, g4⟩
      clear hK K
      try simp only [Act.put, List.setIfInBounds_toArray, List.set_cons_zero, List.set_cons_succ]
      refine stepH 13 (by kernel_rfl) rfl (by rfl) (fun K hK => ?_)
      go_simp
      refine (cM.out _).mono ?_
      rintro e wn ⟨rfl, hb⟩
      have hbn : Hid (Below v1.heap.size v1 wn) := Lib.hid (bThen (bDrew (Below.refl _ v1)) hb (Nat.le_refl _))
      refine hK.out _ _ ?_ (fun hHeld => ?_)
      ·exact ⟨wcell g1 hbn.out hgl, wcell g2 hbn.out hgl, wcell g3 hbn.out hgg, wcell g4 hbn.out hgg⟩
      clear hK K
      try simp only [Act.put, List.setIfInBounds_toArray, List.set_cons_zero, List.set_cons_succ]
      have PN := Lib.hid (P1.out.next hbn.out)
      have hth : wn.there b11 0 (u32s U2).size := by rw [hn2.out, ← hn.out]; exact PN.out.rv.there
      refine stepH 14 (by kernel_rfl) rfl (by rfl) (fun K hK => ?_)
      refine wp_store_mid _ _ _ rfl b11 0 (u32s U2) rfl rfl hth (by rw [siz16, hn2.out]) (u32s_one U2) ?_
      have hne1 : gs ≠ b11 := by omega
      have hne2 : g ≠ b11 := by omega
      refine hK.out _ _ ?_ (fun hHeld => ?_)
      ·exact ⟨(cell_setCells hne1 _ _ _).trans (wcell g1 hbn.out hgl), (cell_setCells hne1 _ _ _).trans (wcell g2 hbn.out hgl), (cell_setCells hne2 _ _ _).trans (wcell g3 hbn.out hgg), (cell_setCells hne2 _ _ _).trans (wcell g4 hbn.out hgg)⟩
      clear hK K
      try simp only [Act.put, List.setIfInBounds_toArray, List.set_cons_zero, List.set_cons_succ]
      refine wpAnyH_done (by kernel_rfl) (NoPanic.normal ?_) _
      have P2 := Lib.hid (PN.out.storeV (V' := U2) (by rw [hn2.out, hn.out]))
      have hI2 := Lib.hid ((hI.out.below hbn.out hgl).store (c := b11) (o := 0) (vs := (u32s U2).toList) hne1)
      clear cM hHeld hbn hth PN P1 hI HU hn hn2 g1 g2 g3 g4 hb hne1 hne2 hgl hgg hg11 r10 r11 r20 r21 x0 y0
      generalize wn.setCells b11 0 (u32s U2).toList = v2 at P2 hI2 ⊢
      have hI := hI2
      have HU := HU2
      clear hI2 HU2
      obtain ⟨r1, g1, er1, r10, r11⟩ := hI.out.at 4 (by decide)
      obtain ⟨r2, g2, er2, r20, r21⟩ := hI.out.at 5 (by decide)
      obtain ⟨x, g3, ex, x0⟩ := P2.out.word HM.out r10 r11
      obtain ⟨y, g4, ey, y0⟩ := P2.out.word HM.out r20 r21
      rw [er1] at ex
      rw [er2] at ey
      obtain ⟨U3, hU⟩ : ∃ l, l = Obol.mixL U2 2 6 10 14 (M.getD (Obol.rowAt i.toNat 4) 0) (M.getD (Obol.rowAt i.toNat 5) 0) := ⟨_, rfl⟩
      have cM := Lib.hid (fun W => rMixN 2 6 10 14 2 6 10 14 (by decide) (by decide) (by decide) (by decide) x y x0 y0 _ _ ex ey U2 U3 HU.out hU W)
      have HU2 : Hid (Obol.W32 16 U3) := Lib.hid (by rw [hU]; exact mixL_w HU.out _ _ _ _ _ _)
      have Q2 := Lib.hid hU
      have hn : Hid ((u32s U2).size = 16) := Lib.hid (u32s_n HU.out)
      have hn2 : Hid ((u32s U3).size = 16) := Lib.hid (u32s_n HU2.out)
      have hgl := hI.out.lt
      have hgg : g < v2.heap.size := by have := P2.out.ord; omega
      have hg11 : g < b11 := by have := P2.out.ord; omega
      clear er1 er2 ex ey hU
      go_wp2_with fail
      refine wp_region_noPanic ?_
      refine wp_region_held_drew (S := fun wq => wq.cell? ⟨gs, 4, none⟩ = some (.int .i64 r1) ∧ wq.cell? ⟨gs, 5, none⟩ = some (.int .i64 r2) ∧ wq.cell? ⟨g, r1.toNat, none⟩ = some (.int .u32 x) ∧ wq.cell? ⟨g, r2.toNat, none⟩ = some (.int .u32 y)) (by kernel_rfl) ?_ (fun hHeld => ?_)
      ·exact ⟨g1, g2, g3, g4⟩
      refine tk 1 hHeld ?_; refine tk 2 hHeld ?_; refine tk 3 hHeld ?_; refine tk 4 hHeld ?_; refine tk 5 hHeld ?_; refine tk 6 hHeld ?_; refine tk 7 hHeld ?_; refine tk 8 hHeld ?_; refine tk 9 hHeld ?_; refine tk 10 hHeld ?_; refine tk 11 hHeld ?_; refine tk 12 hHeld ?_
      refine stepH 0 (by kernel_rfl) rfl (by rfl) (fun K hK => ?_)
      refine wp_load_mid _ _ rfl b11 0 rfl (u32s U2).toList _ P2.out.drew.rv.range und16 rfl (by rw [siz16]; simp [hn.out]) ?_
      rw [Array.toArray_toList]
      refine hK.out _ _ ?_ (fun hHeld => ?_)
      ·exact ⟨g1, g2, g3, g4⟩
      clear hK K
      try simp only [Act.put, List.setIfInBounds_toArray, List.set_cons_zero, List.set_cons_succ]
      refine stepH 13 (by kernel_rfl) rfl (by rfl) (fun K hK => ?_)
      go_simp
      refine (cM.out _).mono ?_
      rintro e wn ⟨rfl, hb⟩
      have hbn : Hid (Below v2.heap.size v2 wn) := Lib.hid (bThen (bDrew (Below.refl _ v2)) hb (Nat.le_refl _))
      refine hK.out _ _ ?_ (fun hHeld => ?_)
      ·exact ⟨wcell g1 hbn.out hgl, wcell g2 hbn.out hgl, wcell g3 hbn.out hgg, wcell g4 hbn.out hgg⟩
      clear hK K
      try simp only [Act.put, List.setIfInBounds_toArray, List.set_cons_zero, List.set_cons_succ]
      have PN := Lib.hid (P2.out.next hbn.out)
      have hth : wn.there b11 0 (u32s U3).size := by rw [hn2.out, ← hn.out]; exact PN.out.rv.there
      refine stepH 14 (by kernel_rfl) rfl (by rfl) (fun K hK => ?_)
      refine wp_store_mid _ _ _ rfl b11 0 (u32s U3) rfl rfl hth (by rw [siz16, hn2.out]) (u32s_one U3) ?_
      have hne1 : gs ≠ b11 := by omega
      have hne2 : g ≠ b11 := by omega
      refine hK.out _ _ ?_ (fun hHeld => ?_)
      ·exact ⟨(cell_setCells hne1 _ _ _).trans (wcell g1 hbn.out hgl), (cell_setCells hne1 _ _ _).trans (wcell g2 hbn.out hgl), (cell_setCells hne2 _ _ _).trans (wcell g3 hbn.out hgg), (cell_setCells hne2 _ _ _).trans (wcell g4 hbn.out hgg)⟩
      clear hK K
      try simp only [Act.put, List.setIfInBounds_toArray, List.set_cons_zero, List.set_cons_succ]
      refine wpAnyH_done (by kernel_rfl) (NoPanic.normal ?_) _
      have P3 := Lib.hid (PN.out.storeV (V' := U3) (by rw [hn2.out, hn.out]))
      have hI2 := Lib.hid ((hI.out.below hbn.out hgl).store (c := b11) (o := 0) (vs := (u32s U3).toList) hne1)
      clear cM hHeld hbn hth PN P2 hI HU hn hn2 g1 g2 g3 g4 hb hne1 hne2 hgl hgg hg11 r10 r11 r20 r21 x0 y0
      generalize wn.setCells b11 0 (u32s U3).toList = v3 at P3 hI2 ⊢
      have hI := hI2
      have HU := HU2
      clear hI2 HU2
      obtain ⟨r1, g1, er1, r10, r11⟩ := hI.out.at 6 (by decide)
      obtain ⟨r2, g2, er2, r20, r21⟩ := hI.out.at 7 (by decide)
      obtain ⟨x, g3, ex, x0⟩ := P3.out.word HM.out r10 r11
      obtain ⟨y, g4, ey, y0⟩ := P3.out.word HM.out r20 r21
      rw [er1] at ex
      rw [er2] at ey
      obtain ⟨U4, hU⟩ : ∃ l, l = Obol.mixL U3 3 7 11 15 (M.getD (Obol.rowAt i.toNat 6) 0) (M.getD (Obol.rowAt i.toNat 7) 0) := ⟨_, rfl⟩
      have cM := Lib.hid (fun W => rMixN 3 7 11 15 3 7 11 15 (by decide) (by decide) (by decide) (by decide) x y x0 y0 _ _ ex ey U3 U4 HU.out hU W)
      have HU2 : Hid (Obol.W32 16 U4) := Lib.hid (by rw [hU]; exact mixL_w HU.out _ _ _ _ _ _)
      have Q3 := Lib.hid hU
      have hn : Hid ((u32s U3).size = 16) := Lib.hid (u32s_n HU.out)
      have hn2 : Hid ((u32s U4).size = 16) := Lib.hid (u32s_n HU2.out)
      have hgl := hI.out.lt
      have hgg : g < v3.heap.size := by have := P3.out.ord; omega
      have hg11 : g < b11 := by have := P3.out.ord; omega
      clear er1 er2 ex ey hU
      go_wp2_with fail
      refine wp_region_noPanic ?_
      refine wp_region_held_drew (S := fun wq => wq.cell? ⟨gs, 6, none⟩ = some (.int .i64 r1) ∧ wq.cell? ⟨gs, 7, none⟩ = some (.int .i64 r2) ∧ wq.cell? ⟨g, r1.toNat, none⟩ = some (.int .u32 x) ∧ wq.cell? ⟨g, r2.toNat, none⟩ = some (.int .u32 y)) (by kernel_rfl) ?_ (fun hHeld => ?_)
      ·exact ⟨g1, g2, g3, g4⟩
      refine tk 1 hHeld ?_; refine tk 2 hHeld ?_; refine tk 3 hHeld ?_; refine tk 4 hHeld ?_; refine tk 5 hHeld ?_; refine tk 6 hHeld ?_; refine tk 7 hHeld ?_; refine tk 8 hHeld ?_; refine tk 9 hHeld ?_; refine tk 10 hHeld ?_; refine tk 11 hHeld ?_; refine tk 12 hHeld ?_
      refine stepH 0 (by kernel_rfl) rfl (by rfl) (fun K hK => ?_)
      refine wp_load_mid _ _ rfl b11 0 rfl (u32s U3).toList _ P3.out.drew.rv.range und16 rfl (by rw [siz16]; simp [hn.out]) ?_
      rw [Array.toArray_toList]
      refine hK.out _ _ ?_ (fun hHeld => ?_)
      ·exact ⟨g1, g2, g3, g4⟩
      clear hK K
      try simp only [Act.put, List.setIfInBounds_toArray, List.set_cons_zero, List.set_cons_succ]
      refine stepH 13 (by kernel_rfl) rfl (by rfl) (fun K hK => ?_)
      go_simp
      refine (cM.out _).mono ?_
      rintro e wn ⟨rfl, hb⟩
      have hbn : Hid (Below v3.heap.size v3 wn) := Lib.hid (bThen (bDrew (Below.refl _ v3)) hb (Nat.le_refl _))
      refine hK.out _ _ ?_ (fun hHeld => ?_)
      ·exact ⟨wcell g1 hbn.out hgl, wcell g2 hbn.out hgl, wcell g3 hbn.out hgg, wcell g4 hbn.out hgg⟩
      clear hK K
      try simp only [Act.put, List.setIfInBounds_toArray, List.set_cons_zero, List.set_cons_succ]
      have PN := Lib.hid (P3.out.next hbn.out)
      have hth : wn.there b11 0 (u32s U4).size := by rw [hn2.out, ← hn.out]; exact PN.out.rv.there
      refine stepH 14 (by kernel_rfl) rfl (by rfl) (fun K hK => ?_)
      refine wp_store_mid _ _ _ rfl b11 0 (u32s U4) rfl rfl hth (by rw [siz16, hn2.out]) (u32s_one U4) ?_
      have hne1 : gs ≠ b11 := by omega
      have hne2 : g ≠ b11 := by omega
      refine hK.out _ _ ?_ (fun hHeld => ?_)
      ·exact ⟨(cell_setCells hne1 _ _ _).trans (wcell g1 hbn.out hgl), (cell_setCells hne1 _ _ _).trans (wcell g2 hbn.out hgl), (cell_setCells hne2 _ _ _).trans (wcell g3 hbn.out hgg), (cell_setCells hne2 _ _ _).trans (wcell g4 hbn.out hgg)⟩
      clear hK K
      try simp only [Act.put, List.setIfInBounds_toArray, List.set_cons_zero, List.set_cons_succ]
      refine wpAnyH_done (by kernel_rfl) (NoPanic.normal ?_) _
      have P4 := Lib.hid (PN.out.storeV (V' := U4) (by rw [hn2.out, hn.out]))
      have hI2 := Lib.hid ((hI.out.below hbn.out hgl).store (c := b11) (o := 0) (vs := (u32s U4).toList) hne1)
      clear cM hHeld hbn hth PN P3 hI HU hn hn2 g1 g2 g3 g4 hb hne1 hne2 hgl hgg hg11 r10 r11 r20 r21 x0 y0
      generalize wn.setCells b11 0 (u32s U4).toList = v4 at P4 hI2 ⊢
      have hI := hI2
      have HU := HU2
      clear hI2 HU2
      obtain ⟨r1, g1, er1, r10, r11⟩ := hI.out.at 8 (by decide)
      obtain ⟨r2, g2, er2, r20, r21⟩ := hI.out.at 9 (by decide)
      obtain ⟨x, g3, ex, x0⟩ := P4.out.word HM.out r10 r11
      obtain ⟨y, g4, ey, y0⟩ := P4.out.word HM.out r20 r21
      rw [er1] at ex
      rw [er2] at ey
      obtain ⟨U5, hU⟩ : ∃ l, l = Obol.mixL U4 0 5 10 15 (M.getD (Obol.rowAt i.toNat 8) 0) (M.getD (Obol.rowAt i.toNat 9) 0) := ⟨_, rfl⟩
      have cM := Lib.hid (fun W => rMixN 0 5 10 15 0 5 10 15 (by decide) (by decide) (by decide) (by decide) x y x0 y0 _ _ ex ey U4 U5 HU.out hU W)
      have HU2 : Hid (Obol.W32 16 U5) := Lib.hid (by rw [hU]; exact mixL_w HU.out _ _ _ _ _ _)
      have Q4 := Lib.hid hU
      have hn : Hid ((u32s U4).size = 16) := Lib.hid (u32s_n HU.out)
      have hn2 : Hid ((u32s U5).size = 16) := Lib.hid (u32s_n HU2.out)
      have hgl := hI.out.lt
      have hgg : g < v4.heap.size := by have := P4.out.ord; omega
      have hg11 : g < b11 := by have := P4.out.ord; omega
      clear er1 er2 ex ey hU
      go_wp2_with fail
      refine wp_region_noPanic ?_
      refine wp_region_held_drew (S := fun wq => wq.cell? ⟨gs, 8, none⟩ = some (.int .i64 r1) ∧ wq.cell? ⟨gs, 9, none⟩ = some (.int .i64 r2) ∧ wq.cell? ⟨g, r1.toNat, none⟩ = some (.int .u32 x) ∧ wq.cell? ⟨g, r2.toNat, none⟩ = some (.int .u32 y)) (by kernel_rfl) ?_ (fun hHeld => ?_)
      ·exact ⟨g1, g2, g3, g4⟩
      refine tk 1 hHeld ?_; refine tk 2 hHeld ?_; refine tk 3 hHeld ?_; refine tk 4 hHeld ?_; refine tk 5 hHeld ?_; refine tk 6 hHeld ?_; refine tk 7 hHeld ?_; refine tk 8 hHeld ?_; refine tk 9 hHeld ?_; refine tk 10 hHeld ?_; refine tk 11 hHeld ?_; refine tk 12 hHeld ?_
      refine stepH 0 (by kernel_rfl) rfl (by rfl) (fun K hK => ?_)
      refine wp_load_mid _ _ rfl b11 0 rfl (u32s U4).toList _ P4.out.drew.rv.range und16 rfl (by rw [siz16]; simp [hn.out]) ?_
      rw [Array.toArray_toList]
      refine hK.out _ _ ?_ (fun hHeld => ?_)
      ·exact ⟨g1, g2, g3, g4⟩
      clear hK K
      try simp only [Act.put, List.setIfInBounds_toArray, List.set_cons_zero, List.set_cons_succ]
      refine stepH 13 (by kernel_rfl) rfl (by rfl) (fun K hK => ?_)
      go_simp
      refine (cM.out _).mono ?_
      rintro e wn ⟨rfl, hb⟩
      have hbn : Hid (Below v4.heap.size v4 wn) := Lib.hid (bThen (bDrew (Below.refl _ v4)) hb (Nat.le_refl _))
      refine hK.out _ _ ?_ (fun hHeld => ?_)
      ·exact ⟨wcell g1 hbn.out hgl, wcell g2 hbn.out hgl, wcell g3 hbn.out hgg, wcell g4 hbn.out hgg⟩
      clear hK K
      try simp only [Act.put, List.setIfInBounds_toArray, List.set_cons_zero, List.set_cons_succ]
      have PN := Lib.hid (P4.out.next hbn.out)
      have hth : wn.there b11 0 (u32s U5).size := by rw [hn2.out, ← hn.out]; exact PN.out.rv.there
      refine stepH 14 (by kernel_rfl) rfl (by rfl) (fun K hK => ?_)
      refine wp_store_mid _ _ _ rfl b11 0 (u32s U5) rfl rfl hth (by rw [siz16, hn2.out]) (u32s_one U5) ?_
      have hne1 : gs ≠ b11 := by omega
      have hne2 : g ≠ b11 := by omega
      refine hK.out _ _ ?_ (fun hHeld => ?_)
      ·exact ⟨(cell_setCells hne1 _ _ _).trans (wcell g1 hbn.out hgl), (cell_setCells hne1 _ _ _).trans (wcell g2 hbn.out hgl), (cell_setCells hne2 _ _ _).trans (wcell g3 hbn.out hgg), (cell_setCells hne2 _ _ _).trans (wcell g4 hbn.out hgg)⟩
      clear hK K
      try simp only [Act.put, List.setIfInBounds_toArray, List.set_cons_zero, List.set_cons_succ]
      refine wpAnyH_done (by kernel_rfl) (NoPanic.normal ?_) _
      have P5 := Lib.hid (PN.out.storeV (V' := U5) (by rw [hn2.out, hn.out]))
      have hI2 := Lib.hid ((hI.out.below hbn.out hgl).store (c := b11) (o := 0) (vs := (u32s U5).toList) hne1)
      clear cM hHeld hbn hth PN P4 hI HU hn hn2 g1 g2 g3 g4 hb hne1 hne2 hgl hgg hg11 r10 r11 r20 r21 x0 y0
      generalize wn.setCells b11 0 (u32s U5).toList = v5 at P5 hI2 ⊢
      have hI := hI2
      have HU := HU2
      clear hI2 HU2
      obtain ⟨r1, g1, er1, r10, r11⟩ := hI.out.at 10 (by decide)
      obtain ⟨r2, g2, er2, r20, r21⟩ := hI.out.at 11 (by decide)
      obtain ⟨x, g3, ex, x0⟩ := P5.out.word HM.out r10 r11
      obtain ⟨y, g4, ey, y0⟩ := P5.out.word HM.out r20 r21
      rw [er1] at ex
      rw [er2] at ey
      obtain ⟨U6, hU⟩ : ∃ l, l = Obol.mixL U5 1 6 11 12 (M.getD (Obol.rowAt i.toNat 10) 0) (M.getD (Obol.rowAt i.toNat 11) 0) := ⟨_, rfl⟩
      have cM := Lib.hid (fun W => rMixN 1 6 11 12 1 6 11 12 (by decide) (by decide) (by decide) (by decide) x y x0 y0 _ _ ex ey U5 U6 HU.out hU W)
      have HU2 : Hid (Obol.W32 16 U6) := Lib.hid (by rw [hU]; exact mixL_w HU.out _ _ _ _ _ _)
      have Q5 := Lib.hid hU
      have hn : Hid ((u32s U5).size = 16) := Lib.hid (u32s_n HU.out)
      have hn2 : Hid ((u32s U6).size = 16) := Lib.hid (u32s_n HU2.out)
      have hgl := hI.out.lt
      have hgg : g < v5.heap.size := by have := P5.out.ord; omega
      have hg11 : g < b11 := by have := P5.out.ord; omega
      clear er1 er2 ex ey hU
      go_wp2_with fail
      refine wp_region_noPanic ?_
      refine wp_region_held_drew (S := fun wq => wq.cell? ⟨gs, 10, none⟩ = some (.int .i64 r1) ∧ wq.cell? ⟨gs, 11, none⟩ = some (.int .i64 r2) ∧ wq.cell? ⟨g, r1.toNat, none⟩ = some (.int .u32 x) ∧ wq.cell? ⟨g, r2.toNat, none⟩ = some (.int .u32 y)) (by kernel_rfl) ?_ (fun hHeld => ?_)
      ·exact ⟨g1, g2, g3, g4⟩
      refine tk 1 hHeld ?_; refine tk 2 hHeld ?_; refine tk 3 hHeld ?_; refine tk 4 hHeld ?_; refine tk 5 hHeld ?_; refine tk 6 hHeld ?_; refine tk 7 hHeld ?_; refine tk 8 hHeld ?_; refine tk 9 hHeld ?_; refine tk 10 hHeld ?_; refine tk 11 hHeld ?_; refine tk 12 hHeld ?_
      refine stepH 0 (by kernel_rfl) rfl (by rfl) (fun K hK => ?_)
      refine wp_load_mid _ _ rfl b11 0 rfl (u32s U5).toList _ P5.out.drew.rv.range und16 rfl (by rw [siz16]; simp [hn.out]) ?_
      rw [Array.toArray_toList]
      refine hK.out _ _ ?_ (fun hHeld => ?_)
      ·exact ⟨g1, g2, g3, g4⟩
      clear hK K
      try simp only [Act.put, List.setIfInBounds_toArray, List.set_cons_zero, List.set_cons_succ]
      refine stepH 13 (by kernel_rfl) rfl (by rfl) (fun K hK => ?_)
      go_simp
      refine (cM.out _).mono ?_
      rintro e wn ⟨rfl, hb⟩
      have hbn : Hid (Below v5.heap.size v5 wn) := Lib.hid (bThen (bDrew (Below.refl _ v5)) hb (Nat.le_refl _))
      refine hK.out _ _ ?_ (fun hHeld => ?_)
      ·exact ⟨wcell g1 hbn.out hgl, wcell g2 hbn.out hgl, wcell g3 hbn.out hgg, wcell g4 hbn.out hgg⟩
      clear hK K
      try simp only [Act.put, List.setIfInBounds_toArray, List.set_cons_zero, List.set_cons_succ]
      have PN := Lib.hid (P5.out.next hbn.out)
      have hth : wn.there b11 0 (u32s U6).size := by rw [hn2.out, ← hn.out]; exact PN.out.rv.there
      refine stepH 14 (by kernel_rfl) rfl (by rfl) (fun K hK => ?_)
      refine wp_store_mid _ _ _ rfl b11 0 (u32s U6) rfl rfl hth (by rw [siz16, hn2.out]) (u32s_one U6) ?_
      have hne1 : gs ≠ b11 := by omega
      have hne2 : g ≠ b11 := by omega
      refine hK.out _ _ ?_ (fun hHeld => ?_)
      ·exact ⟨(cell_setCells hne1 _ _ _).trans (wcell g1 hbn.out hgl), (cell_setCells hne1 _ _ _).trans (wcell g2 hbn.out hgl), (cell_setCells hne2 _ _ _).trans (wcell g3 hbn.out hgg), (cell_setCells hne2 _ _ _).trans (wcell g4 hbn.out hgg)⟩
      clear hK K
      try simp only [Act.put, List.setIfInBounds_toArray, List.set_cons_zero, List.set_cons_succ]
      refine wpAnyH_done (by kernel_rfl) (NoPanic.normal ?_) _
      have P6 := Lib.hid (PN.out.storeV (V' := U6) (by rw [hn2.out, hn.out]))
      have hI2 := Lib.hid ((hI.out.below hbn.out hgl).store (c := b11) (o := 0) (vs := (u32s U6).toList) hne1)
      clear cM hHeld hbn hth PN P5 hI HU hn hn2 g1 g2 g3 g4 hb hne1 hne2 hgl hgg hg11 r10 r11 r20 r21 x0 y0
      generalize wn.setCells b11 0 (u32s U6).toList = v6 at P6 hI2 ⊢
      have hI := hI2
      have HU := HU2
      clear hI2 HU2
      obtain ⟨r1, g1, er1, r10, r11⟩ := hI.out.at 12 (by decide)
      obtain ⟨r2, g2, er2, r20, r21⟩ := hI.out.at 13 (by decide)
      obtain ⟨x, g3, ex, x0⟩ := P6.out.word HM.out r10 r11
      obtain ⟨y, g4, ey, y0⟩ := P6.out.word HM.out r20 r21
      rw [er1] at ex
      rw [er2] at ey
      obtain ⟨U7, hU⟩ : ∃ l, l = Obol.mixL U6 2 7 8 13 (M.getD (Obol.rowAt i.toNat 12) 0) (M.getD (Obol.rowAt i.toNat 13) 0) := ⟨_, rfl⟩
      have cM := Lib.hid (fun W => rMixN 2 7 8 13 2 7 8 13 (by decide) (by decide) (by decide) (by decide) x y x0 y0 _ _ ex ey U6 U7 HU.out hU W)
      have HU2 : Hid (Obol.W32 16 U7) := Lib.hid (by rw [hU]; exact mixL_w HU.out _ _ _ _ _ _)
      have Q6 := Lib.hid hU
      have hn : Hid ((u32s U6).size = 16) := Lib.hid (u32s_n HU.out)
      have hn2 : Hid ((u32s U7).size = 16) := Lib.hid (u32s_n HU2.out)
      have hgl := hI.out.lt
      have hgg : g < v6.heap.size := by have := P6.out.ord; omega
      have hg11 : g < b11 := by have := P6.out.ord; omega
      clear er1 er2 ex ey hU
      go_wp2_with fail
      refine wp_region_noPanic ?_
      refine wp_region_held_drew (S := fun wq => wq.cell? ⟨gs, 12, none⟩ = some (.int .i64 r1) ∧ wq.cell? ⟨gs, 13, none⟩ = some (.int .i64 r2) ∧ wq.cell? ⟨g, r1.toNat, none⟩ = some (.int .u32 x) ∧ wq.cell? ⟨g, r2.toNat, none⟩ = some (.int .u32 y)) (by kernel_rfl) ?_ (fun hHeld => ?_)
      ·exact ⟨g1, g2, g3, g4⟩
      refine tk 1 hHeld ?_; refine tk 2 hHeld ?_; refine tk 3 hHeld ?_; refine tk 4 hHeld ?_; refine tk 5 hHeld ?_; refine tk 6 hHeld ?_; refine tk 7 hHeld ?_; refine tk 8 hHeld ?_; refine tk 9 hHeld ?_; refine tk 10 hHeld ?_; refine tk 11 hHeld ?_; refine tk 12 hHeld ?_
      refine stepH 0 (by kernel_rfl) rfl (by rfl) (fun K hK => ?_)
      refine wp_load_mid _ _ rfl b11 0 rfl (u32s U6).toList _ P6.out.drew.rv.range und16 rfl (by rw [siz16]; simp [hn.out]) ?_
      rw [Array.toArray_toList]
      refine hK.out _ _ ?_ (fun hHeld => ?_)
      ·exact ⟨g1, g2, g3, g4⟩
      clear hK K
      try simp only [Act.put, List.setIfInBounds_toArray, List.set_cons_zero, List.set_cons_succ]
      refine stepH 13 (by kernel_rfl) rfl (by rfl) (fun K hK => ?_)
      go_simp
      refine (cM.out _).mono ?_
      rintro e wn ⟨rfl, hb⟩
      have hbn : Hid (Below v6.heap.size v6 wn) := Lib.hid (bThen (bDrew (Below.refl _ v6)) hb (Nat.le_refl _))
      refine hK.out _ _ ?_ (fun hHeld => ?_)
      ·exact ⟨wcell g1 hbn.out hgl, wcell g2 hbn.out hgl, wcell g3 hbn.out hgg, wcell g4 hbn.out hgg⟩
      clear hK K
      try simp only [Act.put, List.setIfInBounds_toArray, List.set_cons_zero, List.set_cons_succ]
      have PN := Lib.hid (P6.out.next hbn.out)
      have hth : wn.there b11 0 (u32s U7).size := by rw [hn2.out, ← hn.out]; exact PN.out.rv.there
      refine stepH 14 (by kernel_rfl) rfl (by rfl) (fun K hK => ?_)
      refine wp_store_mid _ _ _ rfl b11 0 (u32s U7) rfl rfl hth (by rw [siz16, hn2.out]) (u32s_one U7) ?_
      have hne1 : gs ≠ b11 := by omega
      have hne2 : g ≠ b11 := by omega
      refine hK.out _ _ ?_ (fun hHeld => ?_)
      ·exact ⟨(cell_setCells hne1 _ _ _).trans (wcell g1 hbn.out hgl), (cell_setCells hne1 _ _ _).trans (wcell g2 hbn.out hgl), (cell_setCells hne2 _ _ _).trans (wcell g3 hbn.out hgg), (cell_setCells hne2 _ _ _).trans (wcell g4 hbn.out hgg)⟩
      clear hK K
      try simp only [Act.put, List.setIfInBounds_toArray, List.set_cons_zero, List.set_cons_succ]
      refine wpAnyH_done (by kernel_rfl) (NoPanic.normal ?_) _
      have P7 := Lib.hid (PN.out.storeV (V' := U7) (by rw [hn2.out, hn.out]))
      have hI2 := Lib.hid ((hI.out.below hbn.out hgl).store (c := b11) (o := 0) (vs := (u32s U7).toList) hne1)
      clear cM hHeld hbn hth PN P6 hI HU hn hn2 g1 g2 g3 g4 hb hne1 hne2 hgl hgg hg11 r10 r11 r20 r21 x0 y0
      generalize wn.setCells b11 0 (u32s U7).toList = v7 at P7 hI2 ⊢
      have hI := hI2
      have HU := HU2
      clear hI2 HU2
      obtain ⟨r1, g1, er1, r10, r11⟩ := hI.out.at 14 (by decide)
      obtain ⟨r2, g2, er2, r20, r21⟩ := hI.out.at 15 (by decide)
      obtain ⟨x, g3, ex, x0⟩ := P7.out.word HM.out r10 r11
      obtain ⟨y, g4, ey, y0⟩ := P7.out.word HM.out r20 r21
      rw [er1] at ex
      rw [er2] at ey
      obtain ⟨U8, hU⟩ : ∃ l, l = Obol.mixL U7 3 4 9 14 (M.getD (Obol.rowAt i.toNat 14) 0) (M.getD (Obol.rowAt i.toNat 15) 0) := ⟨_, rfl⟩
      have cM := Lib.hid (fun W => rMixN 3 4 9 14 3 4 9 14 (by decide) (by decide) (by decide) (by decide) x y x0 y0 _ _ ex ey U7 U8 HU.out hU W)
      have HU2 : Hid (Obol.W32 16 U8) := Lib.hid (by rw [hU]; exact mixL_w HU.out _ _ _ _ _ _)
      have Q7 := Lib.hid hU
      have hn : Hid ((u32s U7).size = 16) := Lib.hid (u32s_n HU.out)
      have hn2 : Hid ((u32s U8).size = 16) := Lib.hid (u32s_n HU2.out)
      have hgl := hI.out.lt
      have hgg : g < v7.heap.size := by have := P7.out.ord; omega
      have hg11 : g < b11 := by have := P7.out.ord; omega
      clear er1 er2 ex ey hU
      go_wp2_with fail
      refine wp_region_noPanic ?_
      refine wp_region_held_drew (S := fun wq => wq.cell? ⟨gs, 14, none⟩ = some (.int .i64 r1) ∧ wq.cell? ⟨gs, 15, none⟩ = some (.int .i64 r2) ∧ wq.cell? ⟨g, r1.toNat, none⟩ = some (.int .u32 x) ∧ wq.cell? ⟨g, r2.toNat, none⟩ = some (.int .u32 y)) (by kernel_rfl) ?_ (fun hHeld => ?_)
      ·exact ⟨g1, g2, g3, g4⟩
      refine tk 1 hHeld ?_; refine tk 2 hHeld ?_; refine tk 3 hHeld ?_; refine tk 4 hHeld ?_; refine tk 5 hHeld ?_; refine tk 6 hHeld ?_; refine tk 7 hHeld ?_; refine tk 8 hHeld ?_; refine tk 9 hHeld ?_; refine tk 10 hHeld ?_; refine tk 11 hHeld ?_; refine tk 12 hHeld ?_
      refine stepH 0 (by kernel_rfl) rfl (by rfl) (fun K hK => ?_)
      refine wp_load_mid _ _ rfl b11 0 rfl (u32s U7).toList _ P7.out.drew.rv.range und16 rfl (by rw [siz16]; simp [hn.out]) ?_
      rw [Array.toArray_toList]
      refine hK.out _ _ ?_ (fun hHeld => ?_)
      ·exact ⟨g1, g2, g3, g4⟩
      clear hK K
      try simp only [Act.put, List.setIfInBounds_toArray, List.set_cons_zero, List.set_cons_succ]
      refine stepH 13 (by kernel_rfl) rfl (by rfl) (fun K hK => ?_)
      go_simp
      refine (cM.out _).mono ?_
      rintro e wn ⟨rfl, hb⟩
      have hbn : Hid (Below v7.heap.size v7 wn) := Lib.hid (bThen (bDrew (Below.refl _ v7)) hb (Nat.le_refl _))
      refine hK.out _ _ ?_ (fun hHeld => ?_)
      ·exact ⟨wcell g1 hbn.out hgl, wcell g2 hbn.out hgl, wcell g3 hbn.out hgg, wcell g4 hbn.out hgg⟩
      clear hK K
      try simp only [Act.put, List.setIfInBounds_toArray, List.set_cons_zero, List.set_cons_succ]
      have PN := Lib.hid (P7.out.next hbn.out)
      have hth : wn.there b11 0 (u32s U8).size := by rw [hn2.out, ← hn.out]; exact PN.out.rv.there
      refine stepH 14 (by kernel_rfl) rfl (by rfl) (fun K hK => ?_)
      refine wp_store_mid _ _ _ rfl b11 0 (u32s U8) rfl rfl hth (by rw [siz16, hn2.out]) (u32s_one U8) ?_
      have hne1 : gs ≠ b11 := by omega
      have hne2 : g ≠ b11 := by omega
      refine hK.out _ _ ?_ (fun hHeld => ?_)
      ·exact ⟨(cell_setCells hne1 _ _ _).trans (wcell g1 hbn.out hgl), (cell_setCells hne1 _ _ _).trans (wcell g2 hbn.out hgl), (cell_setCells hne2 _ _ _).trans (wcell g3 hbn.out hgg), (cell_setCells hne2 _ _ _).trans (wcell g4 hbn.out hgg)⟩
      clear hK K
      try simp only [Act.put, List.setIfInBounds_toArray, List.set_cons_zero, List.set_cons_succ]
      refine wpAnyH_done (by kernel_rfl) (NoPanic.normal ?_) _
      have P8 := Lib.hid (PN.out.storeV (V' := U8) (by rw [hn2.out, hn.out]))
      have hI2 := Lib.hid ((hI.out.below hbn.out hgl).store (c := b11) (o := 0) (vs := (u32s U8).toList) hne1)
      clear cM hHeld hbn hth PN P7 hI HU hn hn2 g1 g2 g3 g4 hb hne1 hne2 hgl hgg hg11 r10 r11 r20 r21 x0 y0
      generalize wn.setCells b11 0 (u32s U8).toList = v8 at P8 hI2 ⊢
      have hI := hI2
      have HU := HU2
      clear hI2 HU2
      have HN : Hid (RndI M VS U8 (i + 1)) := Lib.hid ⟨by omega, by omega, by
       rw [show (i + 1).toNat = i.toNat + 1 by omega]
       show _ = Obol.dias M i.toNat 4 (Obol.cols M i.toNat 4 (Obol.rnds M i.toNat VS))
       rw [← HI.out.2.2.1, Obol.rnd_eq, Q7.out, Q6.out, Q5.out, Q4.out, Q3.out, Q2.out, Q1.out, Q0.out, HU00.out], HU.out⟩
      go_wp2
      go_roundw
      case rel => exact ⟨_, _, rfl, HN, P8⟩
      case measure => simp [intOf]; omega
     ·obtain rfl : i = 10 := by omega
      have HV := Lib.hid HI.out.2.2.2
      have hVr : Hid (V = Obol.rnds M 10 VS) := Lib.hid HI.out.2.2.1
      clear HI i0 i1 hi
      go_wp2_with fail
      go_loopw [15] (fun q1 wr => ∃ (i : Int) (L : List Nat), q1 = .int .i64 i ∧ Hid (EndI h V L i) ∧ Hid (PQ w wr b0 b8 g b10 b11 L M V)) (fun q1 _ => (8 - intOf q1).toNat)
      case atStart => exact ⟨0, h, rfl, Lib.hid ⟨by omega, by omega, rfl, Hh.out, fun j _ => rfl⟩, P⟩
      case round =>
       clear P
       obtain ⟨i, L, rfl, HI, P⟩ := hrel
       have i0 := HI.out.1
       have i1 := HI.out.2.1
       have HL := Lib.hid HI.out.2.2.2.1
       by_cases hi : i < 8
       ·obtain ⟨vh, eh, lh, uh⟩ := word_at HL.out (i := i) i0 (by omega)
        obtain ⟨va, ea, la, ua⟩ := word_at HV.out (i := i) i0 (by omega)
        obtain ⟨vb, eb, lb, ub⟩ := word_at HV.out (i := 8 + i) (by omega) (by omega)
        have ch : wr.cell? ⟨b0, i.toNat, none⟩ = some (.int .u32 vh) := P.out.rh.cell i.toNat ((u32s_at HL.out i0 hi).trans (by rw [eh]))
        have ca : wr.cell? ⟨b11, i.toNat, none⟩ = some (.int .u32 va) := P.out.rv.cell i.toNat ((u32s_at HV.out i0 (by omega)).trans (by rw [ea]))
        have cb : wr.cell? ⟨b11, (8 + i).toNat, none⟩ = some (.int .u32 vb) := P.out.rv.cell (8 + i).toNat ((u32s_at HV.out (by omega) (by omega)).trans (by rw [eb]))
        have f := P.out.rh.free i.toNat
        have w8 := wrap_small (x := 8 + i) (by omega) (by omega)
        have h1 := xor_eq eh ea (HL.out.lt _) (HV.out.lt _)
        have h1l := Obol.xor_lt (HL.out.lt i.toNat) (HV.out.lt i.toNat)
        obtain ⟨z1, hz1⟩ : ∃ z : Int, bits .xor .u32 vh va = z := ⟨_, rfl⟩
        rw [hz1] at h1
        have h2 := xor_eq h1.symm eb h1l (HV.out.lt _)
        have h2l := Obol.xor_lt h1l (HV.out.lt (8 + i).toNat)
        rw [Nat.xor_assoc] at h2 h2l
        obtain ⟨z2, hz2⟩ : ∃ z : Int, bits .xor .u32 z1 vb = z := ⟨_, rfl⟩
        rw [hz2] at h2
        have HN := Lib.hid (HI.out.step hi rfl (by rw [show (8 + i.toNat) = (8 + i).toNat by omega]; exact h2l))
        have PN := Lib.hid ((P.out.setH i.toNat _ h2).drew)
        rw [show (8 + i.toNat) = (8 + i).toNat by omega] at HN
        clear h1 h1l h2 h2l eh ea eb HI HL P
        go_wp2_with fail
        go_region
        go_wp2_with fail
        go_roundw
        case rel => exact ⟨_, _, rfl, HN, PN⟩
        case measure => simp [intOf]; omega
       ·obtain rfl : i = 8 := by omega
        have hE : Hid (L = Obol.pressL h M count.toNat last) := Lib.hid (by
         rw [HI.out.2.2.1, hVr.out, HS.out.1]
         rfl)
        have hn : (u32s L).size = 8 := by unfold u32s; simp [HL.out.len]
        have hu : Tryz.prog.underlying 96 = some (.array 8 88) := by kernel_rfl
        have hinf : (Tryz.prog.info? 96).map (·.size) = some 8 := by kernel_rfl
        have h1 : (u32s L).toList.toArray.all (·.oneCell') = true := all_oneCell_toArray (by unfold u32s; simp; intro v _; rfl)
        have hz8 : (u32s (zs 8)).size = 8 := by unfold u32s; simp
        have hth : wr.there b8 0 (u32s L).toList.toArray.size := by rw [Array.toArray_toList, hn, ← hz8]; exact P.out.rr.there
        clear HI hi i0 i1
        go_wp2_with (first | (refine wpList_load_mid rfl _ _ rfl b0 0 rfl (u32s L).toList _ P.out.rh.range hu rfl (by rw [hinf]; simp [hn]) ?_) | (refine wpList_store_mid rfl _ _ _ rfl b8 0 (u32s L).toList.toArray rfl rfl hth (by rw [hinf]; simp [hn]) h1 ?_))
        have RZ : Row (wr.setCells b8 0 (u32s L).toList.toArray.toList) b8 (u32s L) 96 := by rw [Array.toArray_toList]; exact P.out.rr.store (u32s L) (by rw [hn, hz8])
        refine bodyPost_ret (v := .agg (u32s L)) (results_row rfl _ rfl RZ hu rfl (by rw [hinf, hn])) rfl ⟨by rw [HM0.out, ← hE.out], ?_⟩
        exact bSetMany (by have := P.out.ord; omega) _ _ _ P.out.bw

end Go.Proofs.YtkfimfjjmdjbdaaGreatDoor
