import Derived.Test.YtallfmiikjmgaaaDoorZWnote3
import Derived.Test.YtallfmiikjmgaaaDoorMI
import Derived.Test.YtallfmiikjmgaaaDoorMC
set_option linter.unusedVariables false
set_option linter.unusedSimpArgs false
/- Walks: package note: addresses. -/
namespace Go.Proofs.YtallfmiikjmgaaaDoor
open Go.RowKit

theorem scN_lt (k : Nat) : Obol.scN k ≤ 72057593894066549 := by
  unfold Obol.scN; split
  · decide
  · have := Nat.mod_lt k (show 0 < 72057593894066549 by decide); omega
set_option maxRecDepth 8000 in
set_option maxHeartbeats 2000000 in
theorem nAddrN (k : Int) (h : ¬ (1 ≤ k ∧ k < 288230376287764481)) (w : World) :
    Calls Tryd.prog 13 #[.int .u64 k] w fun e w' => e = .returned (.tuple #[adV 0 0 0, errN 1]) ∧ Below w.heap.size w w' := by
  have cK := Lib.hid (fun w => nKeyN k h w)
  clear h
  go_enter Tryd.func13, Tryd.ntmps13
  go_upto_region 1 with fail
  have H1 := Lib.hid ((HR.refl w).new #[.int .u64 0, .int .u64 0, .int .u64 0] 31)
  generalize w.alloc (.cells #[.int .u64 0, .int .u64 0, .int .u64 0] 31) = w1 at H1 ⊢
  obtain ⟨b0, hb0⟩ : ∃ z, w.heap.size = z := ⟨_, rfl⟩
  have H2 : Hid (HR w w1 [(b0, #[.int .u64 0, .int .u64 0, .int .u64 0], 31)]) := Lib.hid (by rw [← hb0]; exact H1.out)
  rw [hb0]
  have ho : Hid (w.heap.size ≤ b0) := Lib.hid (by omega)
  clear H1
  go_wp2_with fail
  refine (cK.out _).mono ?_
  rintro e' w3 ⟨rfl, rfl⟩
  have B4 := Lib.hid (bSet (bSet (bSet H2.out.2 (b := b0) (o := 0) (u := .int .u64 0) (by have := ho.out; omega)) (b := b0) (o := 1) (u := .int .u64 0) (by have := ho.out; omega)) (b := b0) (o := 2) (u := .int .u64 0) (by have := ho.out; omega))
  have hR := (H2.out.row (b := b0) (cs := #[.int .u64 0, .int .u64 0, .int .u64 0]) (t := 31) (by simp)).set3 (v0 := .int .u64 0) (v1 := .int .u64 0) (v2 := .int .u64 0)
  have s0 := hR.cell 0 rfl
  have s1 := hR.cell 1 rfl
  have s2 := hR.cell 2 rfl
  clear hR
  have c_b0_0 := H2.out.cell (b := b0) (cs := #[.int .u64 0, .int .u64 0, .int .u64 0]) (t := 31) (by simp) 0 rfl
  have c_b0_1 := H2.out.cell (b := b0) (cs := #[.int .u64 0, .int .u64 0, .int .u64 0]) (t := 31) (by simp) 1 rfl
  have c_b0_2 := H2.out.cell (b := b0) (cs := #[.int .u64 0, .int .u64 0, .int .u64 0]) (t := 31) (by simp) 2 rfl
  have f_b0_0 := H2.out.free (b := b0) (cs := #[.int .u64 0, .int .u64 0, .int .u64 0]) (t := 31) (by simp) 0
  have f_b0_1 := H2.out.free (b := b0) (cs := #[.int .u64 0, .int .u64 0, .int .u64 0]) (t := 31) (by simp) 1
  have f_b0_2 := H2.out.free (b := b0) (cs := #[.int .u64 0, .int .u64 0, .int .u64 0]) (t := 31) (by simp) 2
  go_wp2_with fail
  rw [hb0]
  refine bodyPost_ret (v := .tuple #[adV 0 0 0, errN 1]) (by simp [results, Tryd.results13, go_sem, s0, s1, s2]) rfl ⟨rfl, hb0 ▸ B4.out⟩
set_option maxRecDepth 8000 in
set_option maxHeartbeats 2000000 in
theorem nAddrY (k : Int) (h1 : 1 ≤ k) (h2 : k < 288230376287764481) (w : World) :
    Calls Tryd.prog 13 #[.int .u64 k] w fun e w' => ∃ px py : Int, e = .returned (.tuple #[adV ((Obol.twoN k.toNat 2 : Nat) : Int) px py, .nilIface]) ∧ 0 ≤ px ∧ 0 ≤ py ∧ px < 288230376287764481 ∧ py < 288230376287764481 ∧ (((Obol.smulN GP (Obol.scN k.toNat)).1 : Nat) : Int) = px ∧ (((Obol.smulN GP (Obol.scN k.toNat)).2 : Nat) : Int) = py ∧ Below w.heap.size w w' := by
  have cK := Lib.hid (fun w => nKeyY k h1 h2 w)
  have cT := Lib.hid (fun w => cTwo k 2 (by omega) (by omega) w)
  have cS := Lib.hid (fun w => nScalar k (by omega) w)
  have cG := fun W => eMulK 223588670687113535 82055451961885530 ((Obol.scN k.toNat : Nat) : Int) (by omega) (by omega) (by omega) (by have := scN_lt k.toNat; omega) W
  obtain ⟨px, py, px0, py0, pxR, pyR, hpx, hpy, -⟩ := mul_pt GP (Obol.scN k.toNat)
  simp only [Int.toNat_natCast] at cG
  rw [hpx, hpy] at cG
  rw [hpx, hpy]
  obtain ⟨s, hs⟩ : ∃ s : Int, ((Obol.scN k.toNat : Nat) : Int) = s := ⟨_, rfl⟩
  obtain ⟨t, ht⟩ : ∃ t : Int, ((Obol.twoN k.toNat (2 : Int).toNat : Nat) : Int) = t := ⟨_, rfl⟩
  have ht2 : ((Obol.twoN k.toNat 2 : Nat) : Int) = t := ht
  rw [ht2]
  rw [hs] at cG cS
  rw [ht] at cT
  replace cG := Lib.hid cG
  clear hpx hpy hs ht ht2
  go_enter Tryd.func13, Tryd.ntmps13
  go_upto_region 1 with fail
  have H1 := Lib.hid ((HR.refl w).new #[.int .u64 0, .int .u64 0, .int .u64 0] 31)
  generalize w.alloc (.cells #[.int .u64 0, .int .u64 0, .int .u64 0] 31) = w1 at H1 ⊢
  obtain ⟨b0, hb0⟩ : ∃ z, w.heap.size = z := ⟨_, rfl⟩
  have H2 : Hid (HR w w1 [(b0, #[.int .u64 0, .int .u64 0, .int .u64 0], 31)]) := Lib.hid (by rw [← hb0]; exact H1.out)
  rw [hb0]
  have ho : Hid (w.heap.size ≤ b0) := Lib.hid (by omega)
  replace hb0 := Lib.hid hb0
  clear H1
  go_wp2_with fail
  refine (cK.out _).mono ?_
  rintro e' w3 ⟨rfl, rfl⟩
  go_wp2_with fail
  refine (cT.out _).mono ?_
  rintro e' w4 ⟨rfl, n4, rfl⟩
  have H4 := Lib.hid (H2.out.next (bDrewN (Below.refl _ _) n4))
  clear H2
  go_wp2_with fail
  refine (eGen _).mono ?_
  rintro e' w5 ⟨rfl, hb5⟩
  have H5 := Lib.hid (H4.out.next hb5)
  clear hb5 H4
  go_wp2_with fail
  refine (cS.out _).mono ?_
  rintro e' w6 ⟨rfl, rfl⟩
  go_wp2_with fail
  refine (cG.out _).mono ?_
  rintro e' w7 ⟨rfl, hb7⟩
  have H7 := Lib.hid (H5.out.next hb7)
  clear hb7 H5
  have B4 := Lib.hid (bSet (bSet (bSet H7.out.2 (b := b0) (o := 0) (u := .int .u64 t) (by have := ho.out; omega)) (b := b0) (o := 1) (u := .int .u64 px) (by have := ho.out; omega)) (b := b0) (o := 2) (u := .int .u64 py) (by have := ho.out; omega))
  have hR := (H7.out.row (b := b0) (cs := #[.int .u64 0, .int .u64 0, .int .u64 0]) (t := 31) (by simp)).set3 (v0 := .int .u64 t) (v1 := .int .u64 px) (v2 := .int .u64 py)
  have s0 := hR.cell 0 rfl
  have s1 := hR.cell 1 rfl
  have s2 := hR.cell 2 rfl
  clear hR
  have c_b0_0 := H7.out.cell (b := b0) (cs := #[.int .u64 0, .int .u64 0, .int .u64 0]) (t := 31) (by simp) 0 rfl
  have c_b0_1 := H7.out.cell (b := b0) (cs := #[.int .u64 0, .int .u64 0, .int .u64 0]) (t := 31) (by simp) 1 rfl
  have c_b0_2 := H7.out.cell (b := b0) (cs := #[.int .u64 0, .int .u64 0, .int .u64 0]) (t := 31) (by simp) 2 rfl
  have f_b0_0 := H7.out.free (b := b0) (cs := #[.int .u64 0, .int .u64 0, .int .u64 0]) (t := 31) (by simp) 0
  have f_b0_1 := H7.out.free (b := b0) (cs := #[.int .u64 0, .int .u64 0, .int .u64 0]) (t := 31) (by simp) 1
  have f_b0_2 := H7.out.free (b := b0) (cs := #[.int .u64 0, .int .u64 0, .int .u64 0]) (t := 31) (by simp) 2
  go_wp2_with fail
  refine bodyPost_ret (v := .tuple #[adV t px py, .nilIface]) (by simp [results, Tryd.results13, go_sem, s0, s1, s2]) rfl ⟨px, py, rfl, px0, py0, pxR, pyR, rfl, rfl, B4.out⟩

end Go.Proofs.YtallfmiikjmgaaaDoor
/- Walks: package note: a sealed note opened. -/
namespace Go.Proofs.YtallfmiikjmgaaaDoor
open Go.RowKit

theorem qOpenY (bk ok ck bn on cn : Nat) (K N : List Nat) (HK : B8 32 K) (HN : B8 12 N) (hck : 32 ≤ ck) (hcn : 12 ≤ cn) (vD : Value) (D : List Nat) (ao : Option Addr) (n cap : Nat) (S : List Nat) (HS : B8 (n + 16) S) (hl : n ≤ 100000) (hg : Obol.bothL K N D (S.take n) = S.drop n) (w : World) (hbk : bk < w.heap.size) (hbn : bn < w.heap.size) (hBK : BL w bk ok K) (hBN : BL w bn on N) (hD : Seg w.heap.size w vD D) (hS : SlI w.heap.size w ao cap S) :
    Calls Tryd.prog 48 #[.slice (some ⟨bk, ok, none⟩) 32 ck, .slice (some ⟨bn, on, none⟩) 12 cn, vD, .slice ao (n + 16) cap] w fun e w' => (∃ a2 c2, e = .returned (.tuple #[.slice a2 n c2, .nilIface]) ∧ OwnB w' w.heap.size (.slice a2 n c2) (Obol.strm K N (S.take n))) ∧ Below w.heap.size w w' :=
  (qOpen bk ok ck bn on cn K N HK HN hck hcn vD D ao n cap S HS hl w hbk hbn hBK hBN hD hS).mono fun e w' h => by
    rcases h with ⟨⟨_, h⟩ | ⟨hb, _⟩, hB⟩
    · exact ⟨h, hB⟩
    · exact (hb hg).elim
theorem qOpenB (bk ok ck bn on cn : Nat) (K N : List Nat) (HK : B8 32 K) (HN : B8 12 N) (hck : 32 ≤ ck) (hcn : 12 ≤ cn) (vD : Value) (D : List Nat) (ao : Option Addr) (n cap : Nat) (S : List Nat) (HS : B8 (n + 16) S) (hl : n ≤ 100000) (hg : Obol.bothL K N D (S.take n) ≠ S.drop n) (w : World) (hbk : bk < w.heap.size) (hbn : bn < w.heap.size) (hBK : BL w bk ok K) (hBN : BL w bn on N) (hD : Seg w.heap.size w vD D) (hS : SlI w.heap.size w ao cap S) :
    Calls Tryd.prog 48 #[.slice (some ⟨bk, ok, none⟩) 32 ck, .slice (some ⟨bn, on, none⟩) 12 cn, vD, .slice ao (n + 16) cap] w fun e w' => e = .returned (.tuple #[.slice none 0 0, errC 6]) ∧ Below w.heap.size w w' :=
  (qOpen bk ok ck bn on cn K N HK HN hck hcn vD D ao n cap S HS hl w hbk hbn hBK hBN hD hS).mono fun e w' h => by
    rcases h with ⟨⟨hb, _⟩ | ⟨_, h⟩, hB⟩
    · exact (hg hb).elim
    · exact ⟨h, hB⟩
set_option maxRecDepth 8000 in
set_option maxHeartbeats 4000000 in
theorem nOpenKey (k x y : Int) (ao : Option Addr) (len cap : Nat) (h : ¬ (1 ≤ k ∧ k < 288230376287764481)) (w : World) :
    Calls Tryd.prog 24 #[.int .u64 k, .agg #[.int .u64 x, .int .u64 y, .slice ao len cap]] w fun e' w' => e' = .returned (.tuple #[ntV 0 0 0, errN 1]) ∧ Below w.heap.size w w' := by
  have cK := Lib.hid (fun w => nKeyN k h w)
  clear h
  go_enter Tryd.func24, Tryd.ntmps24
  go_upto_region 1 with fail
  have H1 := Lib.hid (((HR.refl w).new #[.int .u64 x, .int .u64 y, .slice ao len cap] 44).new #[.int .u64 0, .int .u64 0, .int .u64 0] 41)
  simp only [World.size_alloc] at H1
  generalize (w.alloc (.cells #[.int .u64 x, .int .u64 y, .slice ao len cap] 44)).alloc (.cells #[.int .u64 0, .int .u64 0, .int .u64 0] 41) = w1 at H1 ⊢
  obtain ⟨b1, hb1⟩ : ∃ z, w.heap.size + 1 = z := ⟨_, rfl⟩
  obtain ⟨b0, hb0⟩ : ∃ z, w.heap.size = z := ⟨_, rfl⟩
  have H2 : Hid (HR w w1 [(b1, #[.int .u64 0, .int .u64 0, .int .u64 0], 41), (b0, #[.int .u64 x, .int .u64 y, .slice ao len cap], 44)]) := Lib.hid (by rw [← hb1, ← hb0]; exact H1.out)
  rw [hb1, hb0]
  have ho : Hid (w.heap.size ≤ b0 ∧ b0 < b1) := Lib.hid (by omega)
  replace hb0 := Lib.hid hb0
  replace hb1 := Lib.hid hb1
  clear H1
  have c_b1_0 := H2.out.cell (b := b1) (cs := #[.int .u64 0, .int .u64 0, .int .u64 0]) (t := 41) (by simp) 0 rfl
  have c_b1_1 := H2.out.cell (b := b1) (cs := #[.int .u64 0, .int .u64 0, .int .u64 0]) (t := 41) (by simp) 1 rfl
  have c_b1_2 := H2.out.cell (b := b1) (cs := #[.int .u64 0, .int .u64 0, .int .u64 0]) (t := 41) (by simp) 2 rfl
  have c_b0_0 := H2.out.cell (b := b0) (cs := #[.int .u64 x, .int .u64 y, .slice ao len cap]) (t := 44) (by simp) 0 rfl
  have c_b0_1 := H2.out.cell (b := b0) (cs := #[.int .u64 x, .int .u64 y, .slice ao len cap]) (t := 44) (by simp) 1 rfl
  have c_b0_2 := H2.out.cell (b := b0) (cs := #[.int .u64 x, .int .u64 y, .slice ao len cap]) (t := 44) (by simp) 2 rfl
  have f_b1_0 := H2.out.free (b := b1) (cs := #[.int .u64 0, .int .u64 0, .int .u64 0]) (t := 41) (by simp) 0
  have f_b1_1 := H2.out.free (b := b1) (cs := #[.int .u64 0, .int .u64 0, .int .u64 0]) (t := 41) (by simp) 1
  have f_b1_2 := H2.out.free (b := b1) (cs := #[.int .u64 0, .int .u64 0, .int .u64 0]) (t := 41) (by simp) 2
  go_wp2_with fail
  refine (cK.out _).mono ?_
  rintro e' w3 ⟨rfl, rfl⟩
  have B4 := Lib.hid (bSet (bSet (bSet H2.out.2 (b := b1) (o := 0) (u := .int .u64 0) (by have := ho.out; omega)) (b := b1) (o := 1) (u := .int .u64 0) (by have := ho.out; omega)) (b := b1) (o := 2) (u := .int .u64 0) (by have := ho.out; omega))
  have hR := (H2.out.row (b := b1) (cs := #[.int .u64 0, .int .u64 0, .int .u64 0]) (t := 41) (by simp)).set3 (v0 := .int .u64 0) (v1 := .int .u64 0) (v2 := .int .u64 0)
  have s0 := hR.cell 0 rfl
  have s1 := hR.cell 1 rfl
  have s2 := hR.cell 2 rfl
  clear hR
  go_wp2_with fail
  refine bodyPost_ret (v := .tuple #[ntV 0 0 0, errN 1]) (by simp [results, Tryd.results24, go_sem, s0, s1, s2]) rfl ⟨rfl, B4.out⟩
set_option maxRecDepth 8000 in
set_option maxHeartbeats 4000000 in
theorem nOpenPoint (k x y : Int) (k1 : 1 ≤ k) (k2 : k < 288230376287764481) (ao : Option Addr) (len cap : Nat) (hP : ∀ W, Calls Tryd.prog 39 #[edV x y] W fun e' w' => e' = .returned (.bool false) ∧ Below W.heap.size W w') (w : World) :
    Calls Tryd.prog 24 #[.int .u64 k, .agg #[.int .u64 x, .int .u64 y, .slice ao len cap]] w fun e' w' => e' = .returned (.tuple #[ntV 0 0 0, errN 6]) ∧ Below w.heap.size w w' := by
  have cK := Lib.hid (fun w => nKeyY k k1 k2 w)
  have cP := Lib.hid hP
  clear hP k1 k2
  go_enter Tryd.func24, Tryd.ntmps24
  go_upto_region 1 with fail
  have H1 := Lib.hid (((HR.refl w).new #[.int .u64 x, .int .u64 y, .slice ao len cap] 44).new #[.int .u64 0, .int .u64 0, .int .u64 0] 41)
  simp only [World.size_alloc] at H1
  generalize (w.alloc (.cells #[.int .u64 x, .int .u64 y, .slice ao len cap] 44)).alloc (.cells #[.int .u64 0, .int .u64 0, .int .u64 0] 41) = w1 at H1 ⊢
  obtain ⟨b1, hb1⟩ : ∃ z, w.heap.size + 1 = z := ⟨_, rfl⟩
  obtain ⟨b0, hb0⟩ : ∃ z, w.heap.size = z := ⟨_, rfl⟩
  have H2 : Hid (HR w w1 [(b1, #[.int .u64 0, .int .u64 0, .int .u64 0], 41), (b0, #[.int .u64 x, .int .u64 y, .slice ao len cap], 44)]) := Lib.hid (by rw [← hb1, ← hb0]; exact H1.out)
  rw [hb1, hb0]
  have ho : Hid (w.heap.size ≤ b0 ∧ b0 < b1) := Lib.hid (by omega)
  replace hb0 := Lib.hid hb0
  replace hb1 := Lib.hid hb1
  clear H1
  have c_b1_0 := H2.out.cell (b := b1) (cs := #[.int .u64 0, .int .u64 0, .int .u64 0]) (t := 41) (by simp) 0 rfl
  have c_b1_1 := H2.out.cell (b := b1) (cs := #[.int .u64 0, .int .u64 0, .int .u64 0]) (t := 41) (by simp) 1 rfl
  have c_b1_2 := H2.out.cell (b := b1) (cs := #[.int .u64 0, .int .u64 0, .int .u64 0]) (t := 41) (by simp) 2 rfl
  have c_b0_0 := H2.out.cell (b := b0) (cs := #[.int .u64 x, .int .u64 y, .slice ao len cap]) (t := 44) (by simp) 0 rfl
  have c_b0_1 := H2.out.cell (b := b0) (cs := #[.int .u64 x, .int .u64 y, .slice ao len cap]) (t := 44) (by simp) 1 rfl
  have c_b0_2 := H2.out.cell (b := b0) (cs := #[.int .u64 x, .int .u64 y, .slice ao len cap]) (t := 44) (by simp) 2 rfl
  have f_b1_0 := H2.out.free (b := b1) (cs := #[.int .u64 0, .int .u64 0, .int .u64 0]) (t := 41) (by simp) 0
  have f_b1_1 := H2.out.free (b := b1) (cs := #[.int .u64 0, .int .u64 0, .int .u64 0]) (t := 41) (by simp) 1
  have f_b1_2 := H2.out.free (b := b1) (cs := #[.int .u64 0, .int .u64 0, .int .u64 0]) (t := 41) (by simp) 2
  go_wp2_with fail
  refine (cK.out _).mono ?_
  rintro e' w3 ⟨rfl, rfl⟩
  go_wp2_with fail
  refine (cP.out _).mono ?_
  rintro e' w4 ⟨rfl, hb4⟩
  have H4 := Lib.hid (H2.out.next hb4)
  clear c_b1_0 c_b1_1 c_b1_2 c_b0_0 c_b0_1 c_b0_2 f_b1_0 f_b1_1 f_b1_2
  clear hb4 H2
  have c_b1_0 := H4.out.cell (b := b1) (cs := #[.int .u64 0, .int .u64 0, .int .u64 0]) (t := 41) (by simp) 0 rfl
  have c_b1_1 := H4.out.cell (b := b1) (cs := #[.int .u64 0, .int .u64 0, .int .u64 0]) (t := 41) (by simp) 1 rfl
  have c_b1_2 := H4.out.cell (b := b1) (cs := #[.int .u64 0, .int .u64 0, .int .u64 0]) (t := 41) (by simp) 2 rfl
  have f_b1_0 := H4.out.free (b := b1) (cs := #[.int .u64 0, .int .u64 0, .int .u64 0]) (t := 41) (by simp) 0
  have f_b1_1 := H4.out.free (b := b1) (cs := #[.int .u64 0, .int .u64 0, .int .u64 0]) (t := 41) (by simp) 1
  have f_b1_2 := H4.out.free (b := b1) (cs := #[.int .u64 0, .int .u64 0, .int .u64 0]) (t := 41) (by simp) 2
  have B4 := Lib.hid (bSet (bSet (bSet H4.out.2 (b := b1) (o := 0) (u := .int .u64 0) (by have := ho.out; omega)) (b := b1) (o := 1) (u := .int .u64 0) (by have := ho.out; omega)) (b := b1) (o := 2) (u := .int .u64 0) (by have := ho.out; omega))
  have hR := (H4.out.row (b := b1) (cs := #[.int .u64 0, .int .u64 0, .int .u64 0]) (t := 41) (by simp)).set3 (v0 := .int .u64 0) (v1 := .int .u64 0) (v2 := .int .u64 0)
  have s0 := hR.cell 0 rfl
  have s1 := hR.cell 1 rfl
  have s2 := hR.cell 2 rfl
  clear hR
  go_wp2_with fail
  refine bodyPost_ret (v := .tuple #[ntV 0 0 0, errN 6]) (by simp [results, Tryd.results24, go_sem, s0, s1, s2]) rfl ⟨rfl, B4.out⟩
set_option maxRecDepth 8000 in
set_option maxHeartbeats 4000000 in
theorem nOpenShort (k x y : Int) (k1 : 1 ≤ k) (k2 : k < 288230376287764481) (x0 : 0 ≤ x) (y0 : 0 ≤ y) (hEn : Obol.isN (x.toNat, y.toNat) = true) (ao : Option Addr) (len cap : Nat) (hl : len < 16) (hP : ∀ W, Calls Tryd.prog 39 #[edV x y] W fun e' w' => e' = .returned (.bool true) ∧ Below W.heap.size W w') (w : World) (hG : RowsAt w) :
    Calls Tryd.prog 24 #[.int .u64 k, .agg #[.int .u64 x, .int .u64 y, .slice ao len cap]] w fun e' w' => e' = .returned (.tuple #[ntV 0 0 0, errN 6]) ∧ Below w.heap.size w w' := by
  have cK := Lib.hid (fun w => nKeyY k k1 k2 w)
  have cP := Lib.hid hP
  have G := Lib.hid hG
  have cS := Lib.hid (fun w => nScalar k (by omega) w)
  have cM := fun W => eMulK x y ((Obol.scN k.toNat : Nat) : Int) x0 y0 (by omega) (by have := scN_lt k.toNat; omega) W
  obtain ⟨mx, my, mx0, my0, mxR, myR, hmx, hmy, hMn⟩ := mul_pt (x.toNat, y.toNat) (Obol.scN k.toNat)
  simp only [Int.toNat_natCast] at cM
  rw [hmx, hmy] at cM
  have cX := fun W hG => nShared x y mx my x0 y0 mx0 my0 hEn hMn W hG
  have e2 : (mx.toNat, my.toNat) = Obol.smulN (x.toNat, y.toNat) (Obol.scN k.toNat) := Prod.ext (by show mx.toNat = _; omega) (by show my.toNat = _; omega)
  rw [e2] at cX
  have hK8 := Lib.hid (secL_b8 (x.toNat, y.toNat) (Obol.smulN (x.toNat, y.toNat) (Obol.scN k.toNat)))
  obtain ⟨K, hK⟩ : ∃ l, secL (x.toNat, y.toNat) (Obol.smulN (x.toNat, y.toNat) (Obol.scN k.toNat)) = l := ⟨_, rfl⟩
  rw [hK] at cX hK8
  obtain ⟨s, hs⟩ : ∃ s : Int, ((Obol.scN k.toNat : Nat) : Int) = s := ⟨_, rfl⟩
  rw [hs] at cM cS
  have hz12 : Hid (B8 12 z12) := Lib.hid (cp0_b8 12)
  have mk12 : ∀ W, (Instr.makeSlice 42 (.int .i64 12) (.int .i64 12)).run Tryd.prog W = .ok (.slice (some ⟨W.heap.size, 0, none⟩) 12 12) (W.alloc (.cells (u8s z12) 5)) := fun W => make8 12 (by omega) W
  replace cM := Lib.hid cM
  replace cX := Lib.hid cX
  replace hK := Lib.hid hK
  clear hP hmx hmy hEn hMn e2 hG hs mx0 my0 mxR myR
  go_enter Tryd.func24, Tryd.ntmps24
  go_upto_region 1 with fail
  have H1 := Lib.hid (((HR.refl w).new #[.int .u64 x, .int .u64 y, .slice ao len cap] 44).new #[.int .u64 0, .int .u64 0, .int .u64 0] 41)
  simp only [World.size_alloc] at H1
  generalize (w.alloc (.cells #[.int .u64 x, .int .u64 y, .slice ao len cap] 44)).alloc (.cells #[.int .u64 0, .int .u64 0, .int .u64 0] 41) = w1 at H1 ⊢
  obtain ⟨b1, hb1⟩ : ∃ z, w.heap.size + 1 = z := ⟨_, rfl⟩
  obtain ⟨b0, hb0⟩ : ∃ z, w.heap.size = z := ⟨_, rfl⟩
  have H2 : Hid (HR w w1 [(b1, #[.int .u64 0, .int .u64 0, .int .u64 0], 41), (b0, #[.int .u64 x, .int .u64 y, .slice ao len cap], 44)]) := Lib.hid (by rw [← hb1, ← hb0]; exact H1.out)
  rw [hb1, hb0]
  have ho : Hid (w.heap.size ≤ b0 ∧ b0 < b1) := Lib.hid (by omega)
  replace hb0 := Lib.hid hb0
  replace hb1 := Lib.hid hb1
  clear H1
  have c_b1_0 := H2.out.cell (b := b1) (cs := #[.int .u64 0, .int .u64 0, .int .u64 0]) (t := 41) (by simp) 0 rfl
  have c_b1_1 := H2.out.cell (b := b1) (cs := #[.int .u64 0, .int .u64 0, .int .u64 0]) (t := 41) (by simp) 1 rfl
  have c_b1_2 := H2.out.cell (b := b1) (cs := #[.int .u64 0, .int .u64 0, .int .u64 0]) (t := 41) (by simp) 2 rfl
  have c_b0_0 := H2.out.cell (b := b0) (cs := #[.int .u64 x, .int .u64 y, .slice ao len cap]) (t := 44) (by simp) 0 rfl
  have c_b0_1 := H2.out.cell (b := b0) (cs := #[.int .u64 x, .int .u64 y, .slice ao len cap]) (t := 44) (by simp) 1 rfl
  have c_b0_2 := H2.out.cell (b := b0) (cs := #[.int .u64 x, .int .u64 y, .slice ao len cap]) (t := 44) (by simp) 2 rfl
  have f_b1_0 := H2.out.free (b := b1) (cs := #[.int .u64 0, .int .u64 0, .int .u64 0]) (t := 41) (by simp) 0
  have f_b1_1 := H2.out.free (b := b1) (cs := #[.int .u64 0, .int .u64 0, .int .u64 0]) (t := 41) (by simp) 1
  have f_b1_2 := H2.out.free (b := b1) (cs := #[.int .u64 0, .int .u64 0, .int .u64 0]) (t := 41) (by simp) 2
  go_wp2_with fail
  refine (cK.out _).mono ?_
  rintro e' w3 ⟨rfl, rfl⟩
  go_wp2_with fail
  refine (cP.out _).mono ?_
  rintro e' w4 ⟨rfl, hb4⟩
  have H4 := Lib.hid (H2.out.next hb4)
  clear c_b1_0 c_b1_1 c_b1_2 c_b0_0 c_b0_1 c_b0_2 f_b1_0 f_b1_1 f_b1_2
  clear hb4 H2
  have c_b1_0 := H4.out.cell (b := b1) (cs := #[.int .u64 0, .int .u64 0, .int .u64 0]) (t := 41) (by simp) 0 rfl
  have c_b1_1 := H4.out.cell (b := b1) (cs := #[.int .u64 0, .int .u64 0, .int .u64 0]) (t := 41) (by simp) 1 rfl
  have c_b1_2 := H4.out.cell (b := b1) (cs := #[.int .u64 0, .int .u64 0, .int .u64 0]) (t := 41) (by simp) 2 rfl
  have c_b0_0 := H4.out.cell (b := b0) (cs := #[.int .u64 x, .int .u64 y, .slice ao len cap]) (t := 44) (by simp) 0 rfl
  have c_b0_1 := H4.out.cell (b := b0) (cs := #[.int .u64 x, .int .u64 y, .slice ao len cap]) (t := 44) (by simp) 1 rfl
  have c_b0_2 := H4.out.cell (b := b0) (cs := #[.int .u64 x, .int .u64 y, .slice ao len cap]) (t := 44) (by simp) 2 rfl
  go_upto_region 5 with fail
  refine wp_region_noPanic ?_
  refine wp_region_held_drew (S := fun wq => wq.cell? ⟨b0, 0, none⟩ = some (.int .u64 x) ∧ wq.cell? ⟨b0, 1, none⟩ = some (.int .u64 y) ∧ wq.cell? ⟨b0, 2, none⟩ = some (.slice ao len cap) ∧ HR w wq [(b1, #[.int .u64 0, .int .u64 0, .int .u64 0], 41), (b0, #[.int .u64 x, .int .u64 y, .slice ao len cap], 44)]) (by kernel_rfl) ?_ (fun hHeld => ?_)
  · have hq0 := HR.drew H4.out
    exact ⟨HR.cell hq0 (b := b0) (cs := #[.int .u64 x, .int .u64 y, .slice ao len cap]) (t := 44) (by simp) 0 rfl, HR.cell hq0 (b := b0) (cs := #[.int .u64 x, .int .u64 y, .slice ao len cap]) (t := 44) (by simp) 1 rfl, HR.cell hq0 (b := b0) (cs := #[.int .u64 x, .int .u64 y, .slice ao len cap]) (t := 44) (by simp) 2 rfl, hq0⟩
  refine takeH 0 (fun _ _ _ _ _ h => h) (by kernel_rfl) hHeld rfl (by kernel_rfl) (by rfl) (v := ?_) ?_ ?_
  rotate_left
  ((intro wz hz; (try dsimp only at hz); go_simp) <;> with_reducible rfl)
  try simp only [Act.put, List.setIfInBounds_toArray, List.set_cons_zero, List.set_cons_succ]
  refine takeH 1 (fun _ _ _ _ _ h => h) (by kernel_rfl) hHeld rfl (by kernel_rfl) (by rfl) (v := ?_) ?_ ?_
  rotate_left
  ((intro wz hz; (try dsimp only at hz); go_simp) <;> with_reducible rfl)
  try simp only [Act.put, List.setIfInBounds_toArray, List.set_cons_zero, List.set_cons_succ]
  refine takeH 2 (fun _ _ _ _ _ h => h) (by kernel_rfl) hHeld rfl (by kernel_rfl) (by rfl) (v := ?_) ?_ ?_
  rotate_left
  ((intro wz hz; (try dsimp only at hz); go_simp) <;> with_reducible rfl)
  try simp only [Act.put, List.setIfInBounds_toArray, List.set_cons_zero, List.set_cons_succ]
  refine takeH 3 (fun _ _ _ _ _ h => h) (by kernel_rfl) hHeld rfl (by kernel_rfl) (by rfl) (v := ?_) ?_ ?_
  rotate_left
  ((intro wz hz; (try dsimp only at hz); go_simp) <;> with_reducible rfl)
  try simp only [Act.put, List.setIfInBounds_toArray, List.set_cons_zero, List.set_cons_succ]
  refine takeH 4 (fun _ _ _ _ _ h => h) (by kernel_rfl) hHeld rfl (by kernel_rfl) (by rfl) (v := ?_) ?_ ?_
  rotate_left
  ((intro wz hz; (try dsimp only at hz); go_simp) <;> with_reducible rfl)
  try simp only [Act.put, List.setIfInBounds_toArray, List.set_cons_zero, List.set_cons_succ]
  refine stepH 5 (by kernel_rfl) rfl (by rfl) (fun K hK => ?_)
  go_simp
  refine (cS.out _).mono ?_
  rintro e wq' ⟨rfl, rfl⟩
  refine hK.out _ _ ?_ (fun hHeld => ?_)
  · exact ⟨HR.cell (HR.like hHeld.2.2.2 rfl rfl rfl rfl) (b := b0) (cs := #[.int .u64 x, .int .u64 y, .slice ao len cap]) (t := 44) (by simp) 0 rfl, HR.cell (HR.like hHeld.2.2.2 rfl rfl rfl rfl) (b := b0) (cs := #[.int .u64 x, .int .u64 y, .slice ao len cap]) (t := 44) (by simp) 1 rfl, HR.cell (HR.like hHeld.2.2.2 rfl rfl rfl rfl) (b := b0) (cs := #[.int .u64 x, .int .u64 y, .slice ao len cap]) (t := 44) (by simp) 2 rfl, (HR.like hHeld.2.2.2 rfl rfl rfl rfl)⟩
  clear hK K
  try simp only [Act.put, List.setIfInBounds_toArray, List.set_cons_zero, List.set_cons_succ]
  refine stepH 6 (by kernel_rfl) rfl (by rfl) (fun K hK => ?_)
  go_simp
  refine (cM.out _).mono ?_
  rintro e wc1 ⟨rfl, hbc1⟩
  have hrc1 := HR.next hHeld.2.2.2 hbc1
  refine hK.out _ _ ?_ (fun hHeld => ?_)
  · exact ⟨HR.cell hrc1 (b := b0) (cs := #[.int .u64 x, .int .u64 y, .slice ao len cap]) (t := 44) (by simp) 0 rfl, HR.cell hrc1 (b := b0) (cs := #[.int .u64 x, .int .u64 y, .slice ao len cap]) (t := 44) (by simp) 1 rfl, HR.cell hrc1 (b := b0) (cs := #[.int .u64 x, .int .u64 y, .slice ao len cap]) (t := 44) (by simp) 2 rfl, hrc1⟩
  clear hK K
  try simp only [Act.put, List.setIfInBounds_toArray, List.set_cons_zero, List.set_cons_succ]
  refine stepH 7 (by kernel_rfl) rfl (by rfl) (fun K hK => ?_)
  go_simp
  refine (cX.out _ (G.out.below hHeld.2.2.2.2)).mono ?_
  rintro e wc2 ⟨gk, ck, rfl, hOk, hbc2⟩
  have hrc2 := HR.next hHeld.2.2.2 hbc2
  refine hK.out _ _ ?_ (fun hHeld => ?_)
  · exact ⟨HR.cell hrc2 (b := b0) (cs := #[.int .u64 x, .int .u64 y, .slice ao len cap]) (t := 44) (by simp) 0 rfl, HR.cell hrc2 (b := b0) (cs := #[.int .u64 x, .int .u64 y, .slice ao len cap]) (t := 44) (by simp) 1 rfl, HR.cell hrc2 (b := b0) (cs := #[.int .u64 x, .int .u64 y, .slice ao len cap]) (t := 44) (by simp) 2 rfl, hrc2⟩
  clear hK K
  try simp only [Act.put, List.setIfInBounds_toArray, List.set_cons_zero, List.set_cons_succ]
  refine takeH 8 (fun _ _ _ _ _ h => h) (by kernel_rfl) hHeld rfl (by kernel_rfl) (by rfl) (v := ?_) ?_ ?_
  rotate_left
  ((intro wz hz; (try dsimp only at hz); go_simp) <;> with_reducible rfl)
  try simp only [Act.put, List.setIfInBounds_toArray, List.set_cons_zero, List.set_cons_succ]
  refine takeH 9 (fun _ _ _ _ _ h => h) (by kernel_rfl) hHeld rfl (by kernel_rfl) (by rfl) (v := ?_) ?_ ?_
  rotate_left
  ((intro wz hz; (try dsimp only at hz); go_simp) <;> with_reducible rfl)
  try simp only [Act.put, List.setIfInBounds_toArray, List.set_cons_zero, List.set_cons_succ]
  refine takeH 10 (fun _ _ _ _ _ h => h) (by kernel_rfl) hHeld rfl (by kernel_rfl) (by rfl) (v := ?_) ?_ ?_
  rotate_left
  ((intro wz hz; (try dsimp only at hz); go_simp) <;> with_reducible rfl)
  try simp only [Act.put, List.setIfInBounds_toArray, List.set_cons_zero, List.set_cons_succ]
  refine takeH 11 (fun _ _ _ _ _ h => h) (by kernel_rfl) hHeld rfl (by kernel_rfl) (by rfl) (v := ?_) ?_ ?_
  rotate_left
  ((intro wz hz; (try dsimp only at hz); go_simp) <;> with_reducible rfl)
  try simp only [Act.put, List.setIfInBounds_toArray, List.set_cons_zero, List.set_cons_succ]
  refine takeH 12 (fun _ _ _ _ _ h => h) (by kernel_rfl) hHeld rfl (by kernel_rfl) (by rfl) (v := ?_) ?_ ?_
  rotate_left
  ((intro wz hz; (try dsimp only at hz); go_simp) <;> with_reducible rfl)
  try simp only [Act.put, List.setIfInBounds_toArray, List.set_cons_zero, List.set_cons_succ]
  refine wpAnyH_done (by kernel_rfl) (NoPanic.normal ?_) _
  have H7 := Lib.hid hHeld.2.2.2
  have OK := Lib.hid hOk
  clear hOk hHeld
  go_upto_region 8 with fail
  clear c_b1_0 c_b1_1 c_b1_2 c_b0_0 c_b0_1 c_b0_2
  refine wp_region_noPanic ?_
  refine wp_region_held_drew (S := fun wq => wq.cell? ⟨b0, 0, none⟩ = some (.int .u64 x) ∧ wq.cell? ⟨b0, 1, none⟩ = some (.int .u64 y) ∧ wq.cell? ⟨b0, 2, none⟩ = some (.slice ao len cap) ∧ HR w wq [(b1, #[.int .u64 0, .int .u64 0, .int .u64 0], 41), (b0, #[.int .u64 x, .int .u64 y, .slice ao len cap], 44)]) (by kernel_rfl) ?_ (fun hHeld => ?_)
  · have hq0 := HR.drew H7.out
    exact ⟨HR.cell hq0 (b := b0) (cs := #[.int .u64 x, .int .u64 y, .slice ao len cap]) (t := 44) (by simp) 0 rfl, HR.cell hq0 (b := b0) (cs := #[.int .u64 x, .int .u64 y, .slice ao len cap]) (t := 44) (by simp) 1 rfl, HR.cell hq0 (b := b0) (cs := #[.int .u64 x, .int .u64 y, .slice ao len cap]) (t := 44) (by simp) 2 rfl, hq0⟩
  refine takeH 0 (fun _ _ _ _ _ h => h) (by kernel_rfl) hHeld rfl (by kernel_rfl) (by rfl) (v := ?_) ?_ ?_
  rotate_left
  ((intro wz hz; (try dsimp only at hz); go_simp) <;> with_reducible rfl)
  try simp only [Act.put, List.setIfInBounds_toArray, List.set_cons_zero, List.set_cons_succ]
  refine takeH 2 (fun _ _ _ _ _ h => h) (by kernel_rfl) hHeld rfl (by kernel_rfl) (by rfl) (v := ?_) ?_ ?_
  rotate_left
  ((intro wz hz; (try dsimp only at hz); go_simp) <;> with_reducible rfl)
  try simp only [Act.put, List.setIfInBounds_toArray, List.set_cons_zero, List.set_cons_succ]
  refine takeH 3 (fun _ _ _ _ _ h => h) (by kernel_rfl) hHeld rfl (by kernel_rfl) (by rfl) (v := ?_) ?_ ?_
  rotate_left
  ((intro wz hz; (try dsimp only at hz); go_simp) <;> with_reducible rfl)
  try simp only [Act.put, List.setIfInBounds_toArray, List.set_cons_zero, List.set_cons_succ]
  refine stepH 1 (by kernel_rfl) rfl (by rfl) (fun K hK => ?_)
  go_simp
  refine hK.out _ _ ?_ (fun hHeld => ?_)
  · exact ⟨HR.cell (HR.drew (HR.alloc H7.out _)) (b := b0) (cs := #[.int .u64 x, .int .u64 y, .slice ao len cap]) (t := 44) (by simp) 0 rfl, HR.cell (HR.drew (HR.alloc H7.out _)) (b := b0) (cs := #[.int .u64 x, .int .u64 y, .slice ao len cap]) (t := 44) (by simp) 1 rfl, HR.cell (HR.drew (HR.alloc H7.out _)) (b := b0) (cs := #[.int .u64 x, .int .u64 y, .slice ao len cap]) (t := 44) (by simp) 2 rfl, (HR.drew (HR.alloc H7.out _))⟩
  clear hK K
  try simp only [Act.put, List.setIfInBounds_toArray, List.set_cons_zero, List.set_cons_succ]
  have cO := Lib.hid (fun W => qOpenS (some ⟨gk, 0, none⟩) (some ⟨wc2.heap.size, 0, none⟩) none ao ck 12 0 0 len cap hl W)
  refine stepH 4 (by kernel_rfl) rfl (by rfl) (fun K hK => ?_)
  go_simp
  refine (cO.out _).mono ?_
  rintro e wq' ⟨rfl, rfl⟩
  refine hK.out _ _ ?_ (fun hHeld => ?_)
  · exact ⟨HR.cell (HR.like hHeld.2.2.2 rfl rfl rfl rfl) (b := b0) (cs := #[.int .u64 x, .int .u64 y, .slice ao len cap]) (t := 44) (by simp) 0 rfl, HR.cell (HR.like hHeld.2.2.2 rfl rfl rfl rfl) (b := b0) (cs := #[.int .u64 x, .int .u64 y, .slice ao len cap]) (t := 44) (by simp) 1 rfl, HR.cell (HR.like hHeld.2.2.2 rfl rfl rfl rfl) (b := b0) (cs := #[.int .u64 x, .int .u64 y, .slice ao len cap]) (t := 44) (by simp) 2 rfl, (HR.like hHeld.2.2.2 rfl rfl rfl rfl)⟩
  clear hK K
  try simp only [Act.put, List.setIfInBounds_toArray, List.set_cons_zero, List.set_cons_succ]
  refine takeH 5 (fun _ _ _ _ _ h => h) (by kernel_rfl) hHeld rfl (by kernel_rfl) (by rfl) (v := ?_) ?_ ?_
  rotate_left
  ((intro wz hz; (try dsimp only at hz); go_simp) <;> with_reducible rfl)
  try simp only [Act.put, List.setIfInBounds_toArray, List.set_cons_zero, List.set_cons_succ]
  refine takeH 6 (fun _ _ _ _ _ h => h) (by kernel_rfl) hHeld rfl (by kernel_rfl) (by rfl) (v := ?_) ?_ ?_
  rotate_left
  ((intro wz hz; (try dsimp only at hz); go_simp) <;> with_reducible rfl)
  try simp only [Act.put, List.setIfInBounds_toArray, List.set_cons_zero, List.set_cons_succ]
  refine takeH 7 (fun _ _ _ _ _ h => h) (by kernel_rfl) hHeld rfl (by kernel_rfl) (by rfl) (v := ?_) ?_ ?_
  rotate_left
  ((intro wz hz; (try dsimp only at hz); go_simp) <;> with_reducible rfl)
  try simp only [Act.put, List.setIfInBounds_toArray, List.set_cons_zero, List.set_cons_succ]
  refine takeH 8 (fun _ _ _ _ _ h => h) (by kernel_rfl) hHeld rfl (by kernel_rfl) (by rfl) (v := ?_) ?_ ?_
  rotate_left
  ((intro wz hz; (try dsimp only at hz); go_simp) <;> with_reducible rfl)
  try simp only [Act.put, List.setIfInBounds_toArray, List.set_cons_zero, List.set_cons_succ]
  refine takeH 9 (fun _ _ _ _ _ h => h) (by kernel_rfl) hHeld rfl (by kernel_rfl) (by rfl) (v := ?_) ?_ ?_
  rotate_left
  ((intro wz hz; (try dsimp only at hz); go_simp) <;> with_reducible rfl)
  try simp only [Act.put, List.setIfInBounds_toArray, List.set_cons_zero, List.set_cons_succ]
  refine wpAnyH_done (by kernel_rfl) (NoPanic.normal ?_) _
  have H9 : Hid (HR w (wc2.alloc (.cells (u8s z12) 5)).drew [(b1, #[.int .u64 0, .int .u64 0, .int .u64 0], 41), (b0, #[.int .u64 x, .int .u64 y, .slice ao len cap], 44)]) := Lib.hid hHeld.2.2.2
  clear hHeld
  generalize (wc2.alloc (.cells (u8s z12) 5)).drew = w9 at H9 ⊢
  have c_b1_0 := H9.out.cell (b := b1) (cs := #[.int .u64 0, .int .u64 0, .int .u64 0]) (t := 41) (by simp) 0 rfl
  have c_b1_1 := H9.out.cell (b := b1) (cs := #[.int .u64 0, .int .u64 0, .int .u64 0]) (t := 41) (by simp) 1 rfl
  have c_b1_2 := H9.out.cell (b := b1) (cs := #[.int .u64 0, .int .u64 0, .int .u64 0]) (t := 41) (by simp) 2 rfl
  have f_b1_0 := H9.out.free (b := b1) (cs := #[.int .u64 0, .int .u64 0, .int .u64 0]) (t := 41) (by simp) 0
  have f_b1_1 := H9.out.free (b := b1) (cs := #[.int .u64 0, .int .u64 0, .int .u64 0]) (t := 41) (by simp) 1
  have f_b1_2 := H9.out.free (b := b1) (cs := #[.int .u64 0, .int .u64 0, .int .u64 0]) (t := 41) (by simp) 2
  have B4 := Lib.hid (bSet (bSet (bSet H9.out.2 (b := b1) (o := 0) (u := .int .u64 0) (by have := ho.out; omega)) (b := b1) (o := 1) (u := .int .u64 0) (by have := ho.out; omega)) (b := b1) (o := 2) (u := .int .u64 0) (by have := ho.out; omega))
  have hR := (H9.out.row (b := b1) (cs := #[.int .u64 0, .int .u64 0, .int .u64 0]) (t := 41) (by simp)).set3 (v0 := .int .u64 0) (v1 := .int .u64 0) (v2 := .int .u64 0)
  have s0 := hR.cell 0 rfl
  have s1 := hR.cell 1 rfl
  have s2 := hR.cell 2 rfl
  clear hR
  go_wp2_with fail
  refine bodyPost_ret (v := .tuple #[ntV 0 0 0, errN 6]) (by simp [results, Tryd.results24, go_sem, s0, s1, s2]) rfl ⟨rfl, B4.out⟩

end Go.Proofs.YtallfmiikjmgaaaDoor
/- Walks: package note: a sealed note opened: bytes as long as a mark, or longer. -/
namespace Go.Proofs.YtallfmiikjmgaaaDoor
open Go.RowKit

set_option maxRecDepth 8000 in
set_option maxHeartbeats 4000000 in
theorem nOpenBad (k x y : Int) (k1 : 1 ≤ k) (k2 : k < 288230376287764481) (x0 : 0 ≤ x) (y0 : 0 ≤ y) (hEn : Obol.isN (x.toNat, y.toNat) = true) (ao : Option Addr) (n cap : Nat) (S : List Nat) (HS : B8 (n + 16) S) (hl : n ≤ 100000) (hg : Obol.bothL (secL (x.toNat, y.toNat) (Obol.smulN (x.toNat, y.toNat) (Obol.scN k.toNat))) z12 [] (S.take n) ≠ S.drop n) (hP : ∀ W, Calls Tryd.prog 39 #[edV x y] W fun e' w' => e' = .returned (.bool true) ∧ Below W.heap.size W w') (w : World) (hG : RowsAt w) (hS : SlI w.heap.size w ao cap S)  :
    Calls Tryd.prog 24 #[.int .u64 k, .agg #[.int .u64 x, .int .u64 y, .slice ao (n + 16) cap]] w fun e' w' => e' = .returned (.tuple #[ntV 0 0 0, errN 6]) ∧ Below w.heap.size w w' := by
  have cK := Lib.hid (fun w => nKeyY k k1 k2 w)
  have cP := Lib.hid hP
  have G := Lib.hid hG
  have cS := Lib.hid (fun w => nScalar k (by omega) w)
  have cM := fun W => eMulK x y ((Obol.scN k.toNat : Nat) : Int) x0 y0 (by omega) (by have := scN_lt k.toNat; omega) W
  obtain ⟨mx, my, mx0, my0, mxR, myR, hmx, hmy, hMn⟩ := mul_pt (x.toNat, y.toNat) (Obol.scN k.toNat)
  simp only [Int.toNat_natCast] at cM
  rw [hmx, hmy] at cM
  have cX := fun W hG => nShared x y mx my x0 y0 mx0 my0 hEn hMn W hG
  have e2 : (mx.toNat, my.toNat) = Obol.smulN (x.toNat, y.toNat) (Obol.scN k.toNat) := Prod.ext (by show mx.toNat = _; omega) (by show my.toNat = _; omega)
  rw [e2] at cX
  have hK8 := Lib.hid (secL_b8 (x.toNat, y.toNat) (Obol.smulN (x.toNat, y.toNat) (Obol.scN k.toNat)))
  obtain ⟨K, hK⟩ : ∃ l, secL (x.toNat, y.toNat) (Obol.smulN (x.toNat, y.toNat) (Obol.scN k.toNat)) = l := ⟨_, rfl⟩
  rw [hK] at cX hK8 hg
  obtain ⟨s, hs⟩ : ∃ s : Int, ((Obol.scN k.toNat : Nat) : Int) = s := ⟨_, rfl⟩
  rw [hs] at cM cS
  have hz12 : Hid (B8 12 z12) := Lib.hid (cp0_b8 12)
  have mk12 : ∀ W, (Instr.makeSlice 42 (.int .i64 12) (.int .i64 12)).run Tryd.prog W = .ok (.slice (some ⟨W.heap.size, 0, none⟩) 12 12) (W.alloc (.cells (u8s z12) 5)) := fun W => make8 12 (by omega) W
  replace cM := Lib.hid cM
  replace cX := Lib.hid cX
  replace hK := Lib.hid hK
  clear hP hmx hmy hEn hMn e2 hG hs mx0 my0 mxR myR
  replace hS := Lib.hid hS
  replace HS := Lib.hid HS
  replace hg := Lib.hid hg
  go_enter Tryd.func24, Tryd.ntmps24
  go_upto_region 1 with fail
  have H1 := Lib.hid (((HR.refl w).new #[.int .u64 x, .int .u64 y, .slice ao (n + 16) cap] 44).new #[.int .u64 0, .int .u64 0, .int .u64 0] 41)
  simp only [World.size_alloc] at H1
  generalize (w.alloc (.cells #[.int .u64 x, .int .u64 y, .slice ao (n + 16) cap] 44)).alloc (.cells #[.int .u64 0, .int .u64 0, .int .u64 0] 41) = w1 at H1 ⊢
  obtain ⟨b1, hb1⟩ : ∃ z, w.heap.size + 1 = z := ⟨_, rfl⟩
  obtain ⟨b0, hb0⟩ : ∃ z, w.heap.size = z := ⟨_, rfl⟩
  have H2 : Hid (HR w w1 [(b1, #[.int .u64 0, .int .u64 0, .int .u64 0], 41), (b0, #[.int .u64 x, .int .u64 y, .slice ao (n + 16) cap], 44)]) := Lib.hid (by rw [← hb1, ← hb0]; exact H1.out)
  rw [hb1, hb0]
  have ho : Hid (w.heap.size ≤ b0 ∧ b0 < b1) := Lib.hid (by omega)
  replace hb0 := Lib.hid hb0
  replace hb1 := Lib.hid hb1
  clear H1
  have c_b1_0 := H2.out.cell (b := b1) (cs := #[.int .u64 0, .int .u64 0, .int .u64 0]) (t := 41) (by simp) 0 rfl
  have c_b1_1 := H2.out.cell (b := b1) (cs := #[.int .u64 0, .int .u64 0, .int .u64 0]) (t := 41) (by simp) 1 rfl
  have c_b1_2 := H2.out.cell (b := b1) (cs := #[.int .u64 0, .int .u64 0, .int .u64 0]) (t := 41) (by simp) 2 rfl
  have c_b0_0 := H2.out.cell (b := b0) (cs := #[.int .u64 x, .int .u64 y, .slice ao (n + 16) cap]) (t := 44) (by simp) 0 rfl
  have c_b0_1 := H2.out.cell (b := b0) (cs := #[.int .u64 x, .int .u64 y, .slice ao (n + 16) cap]) (t := 44) (by simp) 1 rfl
  have c_b0_2 := H2.out.cell (b := b0) (cs := #[.int .u64 x, .int .u64 y, .slice ao (n + 16) cap]) (t := 44) (by simp) 2 rfl
  have f_b1_0 := H2.out.free (b := b1) (cs := #[.int .u64 0, .int .u64 0, .int .u64 0]) (t := 41) (by simp) 0
  have f_b1_1 := H2.out.free (b := b1) (cs := #[.int .u64 0, .int .u64 0, .int .u64 0]) (t := 41) (by simp) 1
  have f_b1_2 := H2.out.free (b := b1) (cs := #[.int .u64 0, .int .u64 0, .int .u64 0]) (t := 41) (by simp) 2
  go_wp2_with fail
  refine (cK.out _).mono ?_
  rintro e' w3 ⟨rfl, rfl⟩
  go_wp2_with fail
  refine (cP.out _).mono ?_
  rintro e' w4 ⟨rfl, hb4⟩
  have H4 := Lib.hid (H2.out.next hb4)
  clear c_b1_0 c_b1_1 c_b1_2 c_b0_0 c_b0_1 c_b0_2 f_b1_0 f_b1_1 f_b1_2
  clear hb4 H2
  have c_b1_0 := H4.out.cell (b := b1) (cs := #[.int .u64 0, .int .u64 0, .int .u64 0]) (t := 41) (by simp) 0 rfl
  have c_b1_1 := H4.out.cell (b := b1) (cs := #[.int .u64 0, .int .u64 0, .int .u64 0]) (t := 41) (by simp) 1 rfl
  have c_b1_2 := H4.out.cell (b := b1) (cs := #[.int .u64 0, .int .u64 0, .int .u64 0]) (t := 41) (by simp) 2 rfl
  have c_b0_0 := H4.out.cell (b := b0) (cs := #[.int .u64 x, .int .u64 y, .slice ao (n + 16) cap]) (t := 44) (by simp) 0 rfl
  have c_b0_1 := H4.out.cell (b := b0) (cs := #[.int .u64 x, .int .u64 y, .slice ao (n + 16) cap]) (t := 44) (by simp) 1 rfl
  have c_b0_2 := H4.out.cell (b := b0) (cs := #[.int .u64 x, .int .u64 y, .slice ao (n + 16) cap]) (t := 44) (by simp) 2 rfl
  go_upto_region 5 with fail
  refine wp_region_noPanic ?_
  refine wp_region_held_drew (S := fun wq => wq.cell? ⟨b0, 0, none⟩ = some (.int .u64 x) ∧ wq.cell? ⟨b0, 1, none⟩ = some (.int .u64 y) ∧ wq.cell? ⟨b0, 2, none⟩ = some (.slice ao (n + 16) cap) ∧ HR w wq [(b1, #[.int .u64 0, .int .u64 0, .int .u64 0], 41), (b0, #[.int .u64 x, .int .u64 y, .slice ao (n + 16) cap], 44)]) (by kernel_rfl) ?_ (fun hHeld => ?_)
  · have hq0 := HR.drew H4.out
    exact ⟨HR.cell hq0 (b := b0) (cs := #[.int .u64 x, .int .u64 y, .slice ao (n + 16) cap]) (t := 44) (by simp) 0 rfl, HR.cell hq0 (b := b0) (cs := #[.int .u64 x, .int .u64 y, .slice ao (n + 16) cap]) (t := 44) (by simp) 1 rfl, HR.cell hq0 (b := b0) (cs := #[.int .u64 x, .int .u64 y, .slice ao (n + 16) cap]) (t := 44) (by simp) 2 rfl, hq0⟩
  refine takeH 0 (fun _ _ _ _ _ h => h) (by kernel_rfl) hHeld rfl (by kernel_rfl) (by rfl) (v := ?_) ?_ ?_
  rotate_left
  ((intro wz hz; (try dsimp only at hz); go_simp) <;> with_reducible rfl)
  try simp only [Act.put, List.setIfInBounds_toArray, List.set_cons_zero, List.set_cons_succ]
  refine takeH 1 (fun _ _ _ _ _ h => h) (by kernel_rfl) hHeld rfl (by kernel_rfl) (by rfl) (v := ?_) ?_ ?_
  rotate_left
  ((intro wz hz; (try dsimp only at hz); go_simp) <;> with_reducible rfl)
  try simp only [Act.put, List.setIfInBounds_toArray, List.set_cons_zero, List.set_cons_succ]
  refine takeH 2 (fun _ _ _ _ _ h => h) (by kernel_rfl) hHeld rfl (by kernel_rfl) (by rfl) (v := ?_) ?_ ?_
  rotate_left
  ((intro wz hz; (try dsimp only at hz); go_simp) <;> with_reducible rfl)
  try simp only [Act.put, List.setIfInBounds_toArray, List.set_cons_zero, List.set_cons_succ]
  refine takeH 3 (fun _ _ _ _ _ h => h) (by kernel_rfl) hHeld rfl (by kernel_rfl) (by rfl) (v := ?_) ?_ ?_
  rotate_left
  ((intro wz hz; (try dsimp only at hz); go_simp) <;> with_reducible rfl)
  try simp only [Act.put, List.setIfInBounds_toArray, List.set_cons_zero, List.set_cons_succ]
  refine takeH 4 (fun _ _ _ _ _ h => h) (by kernel_rfl) hHeld rfl (by kernel_rfl) (by rfl) (v := ?_) ?_ ?_
  rotate_left
  ((intro wz hz; (try dsimp only at hz); go_simp) <;> with_reducible rfl)
  try simp only [Act.put, List.setIfInBounds_toArray, List.set_cons_zero, List.set_cons_succ]
  refine stepH 5 (by kernel_rfl) rfl (by rfl) (fun K hK => ?_)
  go_simp
  refine (cS.out _).mono ?_
  rintro e wq' ⟨rfl, rfl⟩
  refine hK.out _ _ ?_ (fun hHeld => ?_)
  · exact ⟨HR.cell (HR.like hHeld.2.2.2 rfl rfl rfl rfl) (b := b0) (cs := #[.int .u64 x, .int .u64 y, .slice ao (n + 16) cap]) (t := 44) (by simp) 0 rfl, HR.cell (HR.like hHeld.2.2.2 rfl rfl rfl rfl) (b := b0) (cs := #[.int .u64 x, .int .u64 y, .slice ao (n + 16) cap]) (t := 44) (by simp) 1 rfl, HR.cell (HR.like hHeld.2.2.2 rfl rfl rfl rfl) (b := b0) (cs := #[.int .u64 x, .int .u64 y, .slice ao (n + 16) cap]) (t := 44) (by simp) 2 rfl, (HR.like hHeld.2.2.2 rfl rfl rfl rfl)⟩
  clear hK K
  try simp only [Act.put, List.setIfInBounds_toArray, List.set_cons_zero, List.set_cons_succ]
  refine stepH 6 (by kernel_rfl) rfl (by rfl) (fun K hK => ?_)
  go_simp
  refine (cM.out _).mono ?_
  rintro e wc1 ⟨rfl, hbc1⟩
  have hrc1 := HR.next hHeld.2.2.2 hbc1
  refine hK.out _ _ ?_ (fun hHeld => ?_)
  · exact ⟨HR.cell hrc1 (b := b0) (cs := #[.int .u64 x, .int .u64 y, .slice ao (n + 16) cap]) (t := 44) (by simp) 0 rfl, HR.cell hrc1 (b := b0) (cs := #[.int .u64 x, .int .u64 y, .slice ao (n + 16) cap]) (t := 44) (by simp) 1 rfl, HR.cell hrc1 (b := b0) (cs := #[.int .u64 x, .int .u64 y, .slice ao (n + 16) cap]) (t := 44) (by simp) 2 rfl, hrc1⟩
  clear hK K
  try simp only [Act.put, List.setIfInBounds_toArray, List.set_cons_zero, List.set_cons_succ]
  refine stepH 7 (by kernel_rfl) rfl (by rfl) (fun K hK => ?_)
  go_simp
  refine (cX.out _ (G.out.below hHeld.2.2.2.2)).mono ?_
  rintro e wc2 ⟨gk, ck, rfl, hOk, hbc2⟩
  have hrc2 := HR.next hHeld.2.2.2 hbc2
  refine hK.out _ _ ?_ (fun hHeld => ?_)
  · exact ⟨HR.cell hrc2 (b := b0) (cs := #[.int .u64 x, .int .u64 y, .slice ao (n + 16) cap]) (t := 44) (by simp) 0 rfl, HR.cell hrc2 (b := b0) (cs := #[.int .u64 x, .int .u64 y, .slice ao (n + 16) cap]) (t := 44) (by simp) 1 rfl, HR.cell hrc2 (b := b0) (cs := #[.int .u64 x, .int .u64 y, .slice ao (n + 16) cap]) (t := 44) (by simp) 2 rfl, hrc2⟩
  clear hK K
  try simp only [Act.put, List.setIfInBounds_toArray, List.set_cons_zero, List.set_cons_succ]
  refine takeH 8 (fun _ _ _ _ _ h => h) (by kernel_rfl) hHeld rfl (by kernel_rfl) (by rfl) (v := ?_) ?_ ?_
  rotate_left
  ((intro wz hz; (try dsimp only at hz); go_simp) <;> with_reducible rfl)
  try simp only [Act.put, List.setIfInBounds_toArray, List.set_cons_zero, List.set_cons_succ]
  refine takeH 9 (fun _ _ _ _ _ h => h) (by kernel_rfl) hHeld rfl (by kernel_rfl) (by rfl) (v := ?_) ?_ ?_
  rotate_left
  ((intro wz hz; (try dsimp only at hz); go_simp) <;> with_reducible rfl)
  try simp only [Act.put, List.setIfInBounds_toArray, List.set_cons_zero, List.set_cons_succ]
  refine takeH 10 (fun _ _ _ _ _ h => h) (by kernel_rfl) hHeld rfl (by kernel_rfl) (by rfl) (v := ?_) ?_ ?_
  rotate_left
  ((intro wz hz; (try dsimp only at hz); go_simp) <;> with_reducible rfl)
  try simp only [Act.put, List.setIfInBounds_toArray, List.set_cons_zero, List.set_cons_succ]
  refine takeH 11 (fun _ _ _ _ _ h => h) (by kernel_rfl) hHeld rfl (by kernel_rfl) (by rfl) (v := ?_) ?_ ?_
  rotate_left
  ((intro wz hz; (try dsimp only at hz); go_simp) <;> with_reducible rfl)
  try simp only [Act.put, List.setIfInBounds_toArray, List.set_cons_zero, List.set_cons_succ]
  refine takeH 12 (fun _ _ _ _ _ h => h) (by kernel_rfl) hHeld rfl (by kernel_rfl) (by rfl) (v := ?_) ?_ ?_
  rotate_left
  ((intro wz hz; (try dsimp only at hz); go_simp) <;> with_reducible rfl)
  try simp only [Act.put, List.setIfInBounds_toArray, List.set_cons_zero, List.set_cons_succ]
  refine wpAnyH_done (by kernel_rfl) (NoPanic.normal ?_) _
  have H7 := Lib.hid hHeld.2.2.2
  have OK := Lib.hid hOk
  clear hOk hHeld
  go_upto_region 8 with fail
  clear c_b1_0 c_b1_1 c_b1_2 c_b0_0 c_b0_1 c_b0_2
  refine wp_region_noPanic ?_
  refine wp_region_held_drew (S := fun wq => wq.cell? ⟨b0, 0, none⟩ = some (.int .u64 x) ∧ wq.cell? ⟨b0, 1, none⟩ = some (.int .u64 y) ∧ wq.cell? ⟨b0, 2, none⟩ = some (.slice ao (n + 16) cap) ∧ HR w wq [(b1, #[.int .u64 0, .int .u64 0, .int .u64 0], 41), (b0, #[.int .u64 x, .int .u64 y, .slice ao (n + 16) cap], 44)]) (by kernel_rfl) ?_ (fun hHeld => ?_)
  · have hq0 := HR.drew H7.out
    exact ⟨HR.cell hq0 (b := b0) (cs := #[.int .u64 x, .int .u64 y, .slice ao (n + 16) cap]) (t := 44) (by simp) 0 rfl, HR.cell hq0 (b := b0) (cs := #[.int .u64 x, .int .u64 y, .slice ao (n + 16) cap]) (t := 44) (by simp) 1 rfl, HR.cell hq0 (b := b0) (cs := #[.int .u64 x, .int .u64 y, .slice ao (n + 16) cap]) (t := 44) (by simp) 2 rfl, hq0⟩
  refine takeH 0 (fun _ _ _ _ _ h => h) (by kernel_rfl) hHeld rfl (by kernel_rfl) (by rfl) (v := ?_) ?_ ?_
  rotate_left
  ((intro wz hz; (try dsimp only at hz); go_simp) <;> with_reducible rfl)
  try simp only [Act.put, List.setIfInBounds_toArray, List.set_cons_zero, List.set_cons_succ]
  refine takeH 2 (fun _ _ _ _ _ h => h) (by kernel_rfl) hHeld rfl (by kernel_rfl) (by rfl) (v := ?_) ?_ ?_
  rotate_left
  ((intro wz hz; (try dsimp only at hz); go_simp) <;> with_reducible rfl)
  try simp only [Act.put, List.setIfInBounds_toArray, List.set_cons_zero, List.set_cons_succ]
  refine takeH 3 (fun _ _ _ _ _ h => h) (by kernel_rfl) hHeld rfl (by kernel_rfl) (by rfl) (v := ?_) ?_ ?_
  rotate_left
  ((intro wz hz; (try dsimp only at hz); go_simp) <;> with_reducible rfl)
  try simp only [Act.put, List.setIfInBounds_toArray, List.set_cons_zero, List.set_cons_succ]
  refine stepH 1 (by kernel_rfl) rfl (by rfl) (fun K hK => ?_)
  go_simp
  refine hK.out _ _ ?_ (fun hHeld => ?_)
  · exact ⟨HR.cell (HR.drew (HR.alloc H7.out _)) (b := b0) (cs := #[.int .u64 x, .int .u64 y, .slice ao (n + 16) cap]) (t := 44) (by simp) 0 rfl, HR.cell (HR.drew (HR.alloc H7.out _)) (b := b0) (cs := #[.int .u64 x, .int .u64 y, .slice ao (n + 16) cap]) (t := 44) (by simp) 1 rfl, HR.cell (HR.drew (HR.alloc H7.out _)) (b := b0) (cs := #[.int .u64 x, .int .u64 y, .slice ao (n + 16) cap]) (t := 44) (by simp) 2 rfl, (HR.drew (HR.alloc H7.out _))⟩
  clear hK K
  try simp only [Act.put, List.setIfInBounds_toArray, List.set_cons_zero, List.set_cons_succ]
  have hba : Below wc2.heap.size wc2 (wc2.alloc (.cells (u8s z12) 5)).drew := bDrewN (bAlloc (Below.refl _ _) _) 1
  have OK10 := OK.out.below hba
  obtain ⟨hk1, hk2, hk3⟩ : gk < (wc2.alloc (.cells (u8s z12) 5)).drew.heap.size ∧ BL (wc2.alloc (.cells (u8s z12) 5)).drew gk 0 K ∧ 32 ≤ ck := ⟨own_lt OK10, own_blz OK10 hK8.out.len, by have := (own_cap OK10).1; rw [hK8.out.len] at this; exact this⟩
  have hbz := (show Row (wc2.alloc (.cells (u8s z12) 5)).drew wc2.heap.size (u8s z12) 5 from Row.drew (Row.new _ _ _))
  have hrb := HR.drew (HR.alloc H7.out (.cells (u8s z12) 5))
  have cO := Lib.hid (qOpenB gk 0 ck wc2.heap.size 0 12 K z12 hK8.out hz12.out hk3 (Nat.le_refl _) (.slice none 0 0) [] ao n cap S HS.out hl hg.out (wc2.alloc (.cells (u8s z12) 5)).drew hk1 hbz.lt hk2 hbz.bl (seg_nil _ _) (hS.out.next hrb.2))
  clear hba OK10 hk1 hk2 hk3 hbz hrb
  refine stepH 4 (by kernel_rfl) rfl (by rfl) (fun K hK => ?_)
  go_simp
  refine (cO.out).mono ?_
  rintro e wc8 ⟨rfl, hbc8⟩
  have hrc8 := HR.next hHeld.2.2.2 hbc8
  refine hK.out _ _ ?_ (fun hHeld => ?_)
  · exact ⟨HR.cell hrc8 (b := b0) (cs := #[.int .u64 x, .int .u64 y, .slice ao (n + 16) cap]) (t := 44) (by simp) 0 rfl, HR.cell hrc8 (b := b0) (cs := #[.int .u64 x, .int .u64 y, .slice ao (n + 16) cap]) (t := 44) (by simp) 1 rfl, HR.cell hrc8 (b := b0) (cs := #[.int .u64 x, .int .u64 y, .slice ao (n + 16) cap]) (t := 44) (by simp) 2 rfl, hrc8⟩
  clear hK K
  try simp only [Act.put, List.setIfInBounds_toArray, List.set_cons_zero, List.set_cons_succ]
  refine takeH 5 (fun _ _ _ _ _ h => h) (by kernel_rfl) hHeld rfl (by kernel_rfl) (by rfl) (v := ?_) ?_ ?_
  rotate_left
  ((intro wz hz; (try dsimp only at hz); go_simp) <;> with_reducible rfl)
  try simp only [Act.put, List.setIfInBounds_toArray, List.set_cons_zero, List.set_cons_succ]
  refine takeH 6 (fun _ _ _ _ _ h => h) (by kernel_rfl) hHeld rfl (by kernel_rfl) (by rfl) (v := ?_) ?_ ?_
  rotate_left
  ((intro wz hz; (try dsimp only at hz); go_simp) <;> with_reducible rfl)
  try simp only [Act.put, List.setIfInBounds_toArray, List.set_cons_zero, List.set_cons_succ]
  refine takeH 7 (fun _ _ _ _ _ h => h) (by kernel_rfl) hHeld rfl (by kernel_rfl) (by rfl) (v := ?_) ?_ ?_
  rotate_left
  ((intro wz hz; (try dsimp only at hz); go_simp) <;> with_reducible rfl)
  try simp only [Act.put, List.setIfInBounds_toArray, List.set_cons_zero, List.set_cons_succ]
  refine takeH 8 (fun _ _ _ _ _ h => h) (by kernel_rfl) hHeld rfl (by kernel_rfl) (by rfl) (v := ?_) ?_ ?_
  rotate_left
  ((intro wz hz; (try dsimp only at hz); go_simp) <;> with_reducible rfl)
  try simp only [Act.put, List.setIfInBounds_toArray, List.set_cons_zero, List.set_cons_succ]
  refine takeH 9 (fun _ _ _ _ _ h => h) (by kernel_rfl) hHeld rfl (by kernel_rfl) (by rfl) (v := ?_) ?_ ?_
  rotate_left
  ((intro wz hz; (try dsimp only at hz); go_simp) <;> with_reducible rfl)
  try simp only [Act.put, List.setIfInBounds_toArray, List.set_cons_zero, List.set_cons_succ]
  refine wpAnyH_done (by kernel_rfl) (NoPanic.normal ?_) _
  have H9 := Lib.hid hHeld.2.2.2
  clear hHeld
  have c_b1_0 := H9.out.cell (b := b1) (cs := #[.int .u64 0, .int .u64 0, .int .u64 0]) (t := 41) (by simp) 0 rfl
  have c_b1_1 := H9.out.cell (b := b1) (cs := #[.int .u64 0, .int .u64 0, .int .u64 0]) (t := 41) (by simp) 1 rfl
  have c_b1_2 := H9.out.cell (b := b1) (cs := #[.int .u64 0, .int .u64 0, .int .u64 0]) (t := 41) (by simp) 2 rfl
  have f_b1_0 := H9.out.free (b := b1) (cs := #[.int .u64 0, .int .u64 0, .int .u64 0]) (t := 41) (by simp) 0
  have f_b1_1 := H9.out.free (b := b1) (cs := #[.int .u64 0, .int .u64 0, .int .u64 0]) (t := 41) (by simp) 1
  have f_b1_2 := H9.out.free (b := b1) (cs := #[.int .u64 0, .int .u64 0, .int .u64 0]) (t := 41) (by simp) 2
  have B4 := Lib.hid (bSet (bSet (bSet H9.out.2 (b := b1) (o := 0) (u := .int .u64 0) (by have := ho.out; omega)) (b := b1) (o := 1) (u := .int .u64 0) (by have := ho.out; omega)) (b := b1) (o := 2) (u := .int .u64 0) (by have := ho.out; omega))
  have hR := (H9.out.row (b := b1) (cs := #[.int .u64 0, .int .u64 0, .int .u64 0]) (t := 41) (by simp)).set3 (v0 := .int .u64 0) (v1 := .int .u64 0) (v2 := .int .u64 0)
  have s0 := hR.cell 0 rfl
  have s1 := hR.cell 1 rfl
  have s2 := hR.cell 2 rfl
  clear hR
  go_wp2_with fail
  refine bodyPost_ret (v := .tuple #[ntV 0 0 0, errN 6]) (by simp [results, Tryd.results24, go_sem, s0, s1, s2]) rfl ⟨rfl, B4.out⟩
set_option maxRecDepth 8000 in
set_option maxHeartbeats 4000000 in
theorem nOpenLong (k x y : Int) (k1 : 1 ≤ k) (k2 : k < 288230376287764481) (x0 : 0 ≤ x) (y0 : 0 ≤ y) (hEn : Obol.isN (x.toNat, y.toNat) = true) (ao : Option Addr) (n cap : Nat) (S : List Nat) (HS : B8 (n + 16) S) (hl : n ≤ 100000) (hn : n ≠ 16) (hg : Obol.bothL (secL (x.toNat, y.toNat) (Obol.smulN (x.toNat, y.toNat) (Obol.scN k.toNat))) z12 [] (S.take n) = S.drop n) (hP : ∀ W, Calls Tryd.prog 39 #[edV x y] W fun e' w' => e' = .returned (.bool true) ∧ Below W.heap.size W w') (w : World) (hG : RowsAt w) (hS : SlI w.heap.size w ao cap S)  :
    Calls Tryd.prog 24 #[.int .u64 k, .agg #[.int .u64 x, .int .u64 y, .slice ao (n + 16) cap]] w fun e' w' => e' = .returned (.tuple #[ntV 0 0 0, errN 6]) ∧ Below w.heap.size w w' := by
  have cK := Lib.hid (fun w => nKeyY k k1 k2 w)
  have cP := Lib.hid hP
  have G := Lib.hid hG
  have cS := Lib.hid (fun w => nScalar k (by omega) w)
  have cM := fun W => eMulK x y ((Obol.scN k.toNat : Nat) : Int) x0 y0 (by omega) (by have := scN_lt k.toNat; omega) W
  obtain ⟨mx, my, mx0, my0, mxR, myR, hmx, hmy, hMn⟩ := mul_pt (x.toNat, y.toNat) (Obol.scN k.toNat)
  simp only [Int.toNat_natCast] at cM
  rw [hmx, hmy] at cM
  have cX := fun W hG => nShared x y mx my x0 y0 mx0 my0 hEn hMn W hG
  have e2 : (mx.toNat, my.toNat) = Obol.smulN (x.toNat, y.toNat) (Obol.scN k.toNat) := Prod.ext (by show mx.toNat = _; omega) (by show my.toNat = _; omega)
  rw [e2] at cX
  have hK8 := Lib.hid (secL_b8 (x.toNat, y.toNat) (Obol.smulN (x.toNat, y.toNat) (Obol.scN k.toNat)))
  obtain ⟨K, hK⟩ : ∃ l, secL (x.toNat, y.toNat) (Obol.smulN (x.toNat, y.toNat) (Obol.scN k.toNat)) = l := ⟨_, rfl⟩
  rw [hK] at cX hK8 hg
  obtain ⟨s, hs⟩ : ∃ s : Int, ((Obol.scN k.toNat : Nat) : Int) = s := ⟨_, rfl⟩
  rw [hs] at cM cS
  have hz12 : Hid (B8 12 z12) := Lib.hid (cp0_b8 12)
  have mk12 : ∀ W, (Instr.makeSlice 42 (.int .i64 12) (.int .i64 12)).run Tryd.prog W = .ok (.slice (some ⟨W.heap.size, 0, none⟩) 12 12) (W.alloc (.cells (u8s z12) 5)) := fun W => make8 12 (by omega) W
  replace cM := Lib.hid cM
  replace cX := Lib.hid cX
  replace hK := Lib.hid hK
  clear hP hmx hmy hEn hMn e2 hG hs mx0 my0 mxR myR
  replace hS := Lib.hid hS
  replace HS := Lib.hid HS
  replace hg := Lib.hid hg
  go_enter Tryd.func24, Tryd.ntmps24
  go_upto_region 1 with fail
  have H1 := Lib.hid (((HR.refl w).new #[.int .u64 x, .int .u64 y, .slice ao (n + 16) cap] 44).new #[.int .u64 0, .int .u64 0, .int .u64 0] 41)
  simp only [World.size_alloc] at H1
  generalize (w.alloc (.cells #[.int .u64 x, .int .u64 y, .slice ao (n + 16) cap] 44)).alloc (.cells #[.int .u64 0, .int .u64 0, .int .u64 0] 41) = w1 at H1 ⊢
  obtain ⟨b1, hb1⟩ : ∃ z, w.heap.size + 1 = z := ⟨_, rfl⟩
  obtain ⟨b0, hb0⟩ : ∃ z, w.heap.size = z := ⟨_, rfl⟩
  have H2 : Hid (HR w w1 [(b1, #[.int .u64 0, .int .u64 0, .int .u64 0], 41), (b0, #[.int .u64 x, .int .u64 y, .slice ao (n + 16) cap], 44)]) := Lib.hid (by rw [← hb1, ← hb0]; exact H1.out)
  rw [hb1, hb0]
  have ho : Hid (w.heap.size ≤ b0 ∧ b0 < b1) := Lib.hid (by omega)
  replace hb0 := Lib.hid hb0
  replace hb1 := Lib.hid hb1
  clear H1
  have c_b1_0 := H2.out.cell (b := b1) (cs := #[.int .u64 0, .int .u64 0, .int .u64 0]) (t := 41) (by simp) 0 rfl
  have c_b1_1 := H2.out.cell (b := b1) (cs := #[.int .u64 0, .int .u64 0, .int .u64 0]) (t := 41) (by simp) 1 rfl
  have c_b1_2 := H2.out.cell (b := b1) (cs := #[.int .u64 0, .int .u64 0, .int .u64 0]) (t := 41) (by simp) 2 rfl
  have c_b0_0 := H2.out.cell (b := b0) (cs := #[.int .u64 x, .int .u64 y, .slice ao (n + 16) cap]) (t := 44) (by simp) 0 rfl
  have c_b0_1 := H2.out.cell (b := b0) (cs := #[.int .u64 x, .int .u64 y, .slice ao (n + 16) cap]) (t := 44) (by simp) 1 rfl
  have c_b0_2 := H2.out.cell (b := b0) (cs := #[.int .u64 x, .int .u64 y, .slice ao (n + 16) cap]) (t := 44) (by simp) 2 rfl
  have f_b1_0 := H2.out.free (b := b1) (cs := #[.int .u64 0, .int .u64 0, .int .u64 0]) (t := 41) (by simp) 0
  have f_b1_1 := H2.out.free (b := b1) (cs := #[.int .u64 0, .int .u64 0, .int .u64 0]) (t := 41) (by simp) 1
  have f_b1_2 := H2.out.free (b := b1) (cs := #[.int .u64 0, .int .u64 0, .int .u64 0]) (t := 41) (by simp) 2
  go_wp2_with fail
  refine (cK.out _).mono ?_
  rintro e' w3 ⟨rfl, rfl⟩
  go_wp2_with fail
  refine (cP.out _).mono ?_
  rintro e' w4 ⟨rfl, hb4⟩
  have H4 := Lib.hid (H2.out.next hb4)
  clear c_b1_0 c_b1_1 c_b1_2 c_b0_0 c_b0_1 c_b0_2 f_b1_0 f_b1_1 f_b1_2
  clear hb4 H2
  have c_b1_0 := H4.out.cell (b := b1) (cs := #[.int .u64 0, .int .u64 0, .int .u64 0]) (t := 41) (by simp) 0 rfl
  have c_b1_1 := H4.out.cell (b := b1) (cs := #[.int .u64 0, .int .u64 0, .int .u64 0]) (t := 41) (by simp) 1 rfl
  have c_b1_2 := H4.out.cell (b := b1) (cs := #[.int .u64 0, .int .u64 0, .int .u64 0]) (t := 41) (by simp) 2 rfl
  have c_b0_0 := H4.out.cell (b := b0) (cs := #[.int .u64 x, .int .u64 y, .slice ao (n + 16) cap]) (t := 44) (by simp) 0 rfl
  have c_b0_1 := H4.out.cell (b := b0) (cs := #[.int .u64 x, .int .u64 y, .slice ao (n + 16) cap]) (t := 44) (by simp) 1 rfl
  have c_b0_2 := H4.out.cell (b := b0) (cs := #[.int .u64 x, .int .u64 y, .slice ao (n + 16) cap]) (t := 44) (by simp) 2 rfl
  go_upto_region 5 with fail
  refine wp_region_noPanic ?_
  refine wp_region_held_drew (S := fun wq => wq.cell? ⟨b0, 0, none⟩ = some (.int .u64 x) ∧ wq.cell? ⟨b0, 1, none⟩ = some (.int .u64 y) ∧ wq.cell? ⟨b0, 2, none⟩ = some (.slice ao (n + 16) cap) ∧ HR w wq [(b1, #[.int .u64 0, .int .u64 0, .int .u64 0], 41), (b0, #[.int .u64 x, .int .u64 y, .slice ao (n + 16) cap], 44)]) (by kernel_rfl) ?_ (fun hHeld => ?_)
  · have hq0 := HR.drew H4.out
    exact ⟨HR.cell hq0 (b := b0) (cs := #[.int .u64 x, .int .u64 y, .slice ao (n + 16) cap]) (t := 44) (by simp) 0 rfl, HR.cell hq0 (b := b0) (cs := #[.int .u64 x, .int .u64 y, .slice ao (n + 16) cap]) (t := 44) (by simp) 1 rfl, HR.cell hq0 (b := b0) (cs := #[.int .u64 x, .int .u64 y, .slice ao (n + 16) cap]) (t := 44) (by simp) 2 rfl, hq0⟩
  refine takeH 0 (fun _ _ _ _ _ h => h) (by kernel_rfl) hHeld rfl (by kernel_rfl) (by rfl) (v := ?_) ?_ ?_
  rotate_left
  ((intro wz hz; (try dsimp only at hz); go_simp) <;> with_reducible rfl)
  try simp only [Act.put, List.setIfInBounds_toArray, List.set_cons_zero, List.set_cons_succ]
  refine takeH 1 (fun _ _ _ _ _ h => h) (by kernel_rfl) hHeld rfl (by kernel_rfl) (by rfl) (v := ?_) ?_ ?_
  rotate_left
  ((intro wz hz; (try dsimp only at hz); go_simp) <;> with_reducible rfl)
  try simp only [Act.put, List.setIfInBounds_toArray, List.set_cons_zero, List.set_cons_succ]
  refine takeH 2 (fun _ _ _ _ _ h => h) (by kernel_rfl) hHeld rfl (by kernel_rfl) (by rfl) (v := ?_) ?_ ?_
  rotate_left
  ((intro wz hz; (try dsimp only at hz); go_simp) <;> with_reducible rfl)
  try simp only [Act.put, List.setIfInBounds_toArray, List.set_cons_zero, List.set_cons_succ]
  refine takeH 3 (fun _ _ _ _ _ h => h) (by kernel_rfl) hHeld rfl (by kernel_rfl) (by rfl) (v := ?_) ?_ ?_
  rotate_left
  ((intro wz hz; (try dsimp only at hz); go_simp) <;> with_reducible rfl)
  try simp only [Act.put, List.setIfInBounds_toArray, List.set_cons_zero, List.set_cons_succ]
  refine takeH 4 (fun _ _ _ _ _ h => h) (by kernel_rfl) hHeld rfl (by kernel_rfl) (by rfl) (v := ?_) ?_ ?_
  rotate_left
  ((intro wz hz; (try dsimp only at hz); go_simp) <;> with_reducible rfl)
  try simp only [Act.put, List.setIfInBounds_toArray, List.set_cons_zero, List.set_cons_succ]
  refine stepH 5 (by kernel_rfl) rfl (by rfl) (fun K hK => ?_)
  go_simp
  refine (cS.out _).mono ?_
  rintro e wq' ⟨rfl, rfl⟩
  refine hK.out _ _ ?_ (fun hHeld => ?_)
  · exact ⟨HR.cell (HR.like hHeld.2.2.2 rfl rfl rfl rfl) (b := b0) (cs := #[.int .u64 x, .int .u64 y, .slice ao (n + 16) cap]) (t := 44) (by simp) 0 rfl, HR.cell (HR.like hHeld.2.2.2 rfl rfl rfl rfl) (b := b0) (cs := #[.int .u64 x, .int .u64 y, .slice ao (n + 16) cap]) (t := 44) (by simp) 1 rfl, HR.cell (HR.like hHeld.2.2.2 rfl rfl rfl rfl) (b := b0) (cs := #[.int .u64 x, .int .u64 y, .slice ao (n + 16) cap]) (t := 44) (by simp) 2 rfl, (HR.like hHeld.2.2.2 rfl rfl rfl rfl)⟩
  clear hK K
  try simp only [Act.put, List.setIfInBounds_toArray, List.set_cons_zero, List.set_cons_succ]
  refine stepH 6 (by kernel_rfl) rfl (by rfl) (fun K hK => ?_)
  go_simp
  refine (cM.out _).mono ?_
  rintro e wc1 ⟨rfl, hbc1⟩
  have hrc1 := HR.next hHeld.2.2.2 hbc1
  refine hK.out _ _ ?_ (fun hHeld => ?_)
  · exact ⟨HR.cell hrc1 (b := b0) (cs := #[.int .u64 x, .int .u64 y, .slice ao (n + 16) cap]) (t := 44) (by simp) 0 rfl, HR.cell hrc1 (b := b0) (cs := #[.int .u64 x, .int .u64 y, .slice ao (n + 16) cap]) (t := 44) (by simp) 1 rfl, HR.cell hrc1 (b := b0) (cs := #[.int .u64 x, .int .u64 y, .slice ao (n + 16) cap]) (t := 44) (by simp) 2 rfl, hrc1⟩
  clear hK K
  try simp only [Act.put, List.setIfInBounds_toArray, List.set_cons_zero, List.set_cons_succ]
  refine stepH 7 (by kernel_rfl) rfl (by rfl) (fun K hK => ?_)
  go_simp
  refine (cX.out _ (G.out.below hHeld.2.2.2.2)).mono ?_
  rintro e wc2 ⟨gk, ck, rfl, hOk, hbc2⟩
  have hrc2 := HR.next hHeld.2.2.2 hbc2
  refine hK.out _ _ ?_ (fun hHeld => ?_)
  · exact ⟨HR.cell hrc2 (b := b0) (cs := #[.int .u64 x, .int .u64 y, .slice ao (n + 16) cap]) (t := 44) (by simp) 0 rfl, HR.cell hrc2 (b := b0) (cs := #[.int .u64 x, .int .u64 y, .slice ao (n + 16) cap]) (t := 44) (by simp) 1 rfl, HR.cell hrc2 (b := b0) (cs := #[.int .u64 x, .int .u64 y, .slice ao (n + 16) cap]) (t := 44) (by simp) 2 rfl, hrc2⟩
  clear hK K
  try simp only [Act.put, List.setIfInBounds_toArray, List.set_cons_zero, List.set_cons_succ]
  refine takeH 8 (fun _ _ _ _ _ h => h) (by kernel_rfl) hHeld rfl (by kernel_rfl) (by rfl) (v := ?_) ?_ ?_
  rotate_left
  ((intro wz hz; (try dsimp only at hz); go_simp) <;> with_reducible rfl)
  try simp only [Act.put, List.setIfInBounds_toArray, List.set_cons_zero, List.set_cons_succ]
  refine takeH 9 (fun _ _ _ _ _ h => h) (by kernel_rfl) hHeld rfl (by kernel_rfl) (by rfl) (v := ?_) ?_ ?_
  rotate_left
  ((intro wz hz; (try dsimp only at hz); go_simp) <;> with_reducible rfl)
  try simp only [Act.put, List.setIfInBounds_toArray, List.set_cons_zero, List.set_cons_succ]
  refine takeH 10 (fun _ _ _ _ _ h => h) (by kernel_rfl) hHeld rfl (by kernel_rfl) (by rfl) (v := ?_) ?_ ?_
  rotate_left
  ((intro wz hz; (try dsimp only at hz); go_simp) <;> with_reducible rfl)
  try simp only [Act.put, List.setIfInBounds_toArray, List.set_cons_zero, List.set_cons_succ]
  refine takeH 11 (fun _ _ _ _ _ h => h) (by kernel_rfl) hHeld rfl (by kernel_rfl) (by rfl) (v := ?_) ?_ ?_
  rotate_left
  ((intro wz hz; (try dsimp only at hz); go_simp) <;> with_reducible rfl)
  try simp only [Act.put, List.setIfInBounds_toArray, List.set_cons_zero, List.set_cons_succ]
  refine takeH 12 (fun _ _ _ _ _ h => h) (by kernel_rfl) hHeld rfl (by kernel_rfl) (by rfl) (v := ?_) ?_ ?_
  rotate_left
  ((intro wz hz; (try dsimp only at hz); go_simp) <;> with_reducible rfl)
  try simp only [Act.put, List.setIfInBounds_toArray, List.set_cons_zero, List.set_cons_succ]
  refine wpAnyH_done (by kernel_rfl) (NoPanic.normal ?_) _
  have H7 := Lib.hid hHeld.2.2.2
  have OK := Lib.hid hOk
  clear hOk hHeld
  go_upto_region 8 with fail
  clear c_b1_0 c_b1_1 c_b1_2 c_b0_0 c_b0_1 c_b0_2
  refine wp_region_noPanic ?_
  refine wp_region_held_drew (S := fun wq => wq.cell? ⟨b0, 0, none⟩ = some (.int .u64 x) ∧ wq.cell? ⟨b0, 1, none⟩ = some (.int .u64 y) ∧ wq.cell? ⟨b0, 2, none⟩ = some (.slice ao (n + 16) cap) ∧ HR w wq [(b1, #[.int .u64 0, .int .u64 0, .int .u64 0], 41), (b0, #[.int .u64 x, .int .u64 y, .slice ao (n + 16) cap], 44)]) (by kernel_rfl) ?_ (fun hHeld => ?_)
  · have hq0 := HR.drew H7.out
    exact ⟨HR.cell hq0 (b := b0) (cs := #[.int .u64 x, .int .u64 y, .slice ao (n + 16) cap]) (t := 44) (by simp) 0 rfl, HR.cell hq0 (b := b0) (cs := #[.int .u64 x, .int .u64 y, .slice ao (n + 16) cap]) (t := 44) (by simp) 1 rfl, HR.cell hq0 (b := b0) (cs := #[.int .u64 x, .int .u64 y, .slice ao (n + 16) cap]) (t := 44) (by simp) 2 rfl, hq0⟩
  refine takeH 0 (fun _ _ _ _ _ h => h) (by kernel_rfl) hHeld rfl (by kernel_rfl) (by rfl) (v := ?_) ?_ ?_
  rotate_left
  ((intro wz hz; (try dsimp only at hz); go_simp) <;> with_reducible rfl)
  try simp only [Act.put, List.setIfInBounds_toArray, List.set_cons_zero, List.set_cons_succ]
  refine takeH 2 (fun _ _ _ _ _ h => h) (by kernel_rfl) hHeld rfl (by kernel_rfl) (by rfl) (v := ?_) ?_ ?_
  rotate_left
  ((intro wz hz; (try dsimp only at hz); go_simp) <;> with_reducible rfl)
  try simp only [Act.put, List.setIfInBounds_toArray, List.set_cons_zero, List.set_cons_succ]
  refine takeH 3 (fun _ _ _ _ _ h => h) (by kernel_rfl) hHeld rfl (by kernel_rfl) (by rfl) (v := ?_) ?_ ?_
  rotate_left
  ((intro wz hz; (try dsimp only at hz); go_simp) <;> with_reducible rfl)
  try simp only [Act.put, List.setIfInBounds_toArray, List.set_cons_zero, List.set_cons_succ]
  refine stepH 1 (by kernel_rfl) rfl (by rfl) (fun K hK => ?_)
  go_simp
  refine hK.out _ _ ?_ (fun hHeld => ?_)
  · exact ⟨HR.cell (HR.drew (HR.alloc H7.out _)) (b := b0) (cs := #[.int .u64 x, .int .u64 y, .slice ao (n + 16) cap]) (t := 44) (by simp) 0 rfl, HR.cell (HR.drew (HR.alloc H7.out _)) (b := b0) (cs := #[.int .u64 x, .int .u64 y, .slice ao (n + 16) cap]) (t := 44) (by simp) 1 rfl, HR.cell (HR.drew (HR.alloc H7.out _)) (b := b0) (cs := #[.int .u64 x, .int .u64 y, .slice ao (n + 16) cap]) (t := 44) (by simp) 2 rfl, (HR.drew (HR.alloc H7.out _))⟩
  clear hK K
  try simp only [Act.put, List.setIfInBounds_toArray, List.set_cons_zero, List.set_cons_succ]
  have hba : Below wc2.heap.size wc2 (wc2.alloc (.cells (u8s z12) 5)).drew := bDrewN (bAlloc (Below.refl _ _) _) 1
  have OK10 := OK.out.below hba
  obtain ⟨hk1, hk2, hk3⟩ : gk < (wc2.alloc (.cells (u8s z12) 5)).drew.heap.size ∧ BL (wc2.alloc (.cells (u8s z12) 5)).drew gk 0 K ∧ 32 ≤ ck := ⟨own_lt OK10, own_blz OK10 hK8.out.len, by have := (own_cap OK10).1; rw [hK8.out.len] at this; exact this⟩
  have hbz := (show Row (wc2.alloc (.cells (u8s z12) 5)).drew wc2.heap.size (u8s z12) 5 from Row.drew (Row.new _ _ _))
  have hrb := HR.drew (HR.alloc H7.out (.cells (u8s z12) 5))
  have cO := Lib.hid (qOpenY gk 0 ck wc2.heap.size 0 12 K z12 hK8.out hz12.out hk3 (Nat.le_refl _) (.slice none 0 0) [] ao n cap S HS.out hl hg.out (wc2.alloc (.cells (u8s z12) 5)).drew hk1 hbz.lt hk2 hbz.bl (seg_nil _ _) (hS.out.next hrb.2))
  clear hba OK10 hk1 hk2 hk3 hbz hrb
  refine stepH 4 (by kernel_rfl) rfl (by rfl) (fun K hK => ?_)
  go_simp
  refine (cO.out).mono ?_
  rintro e wc8 ⟨⟨a2, c2, rfl, hO⟩, hbc8⟩
  have hrc8 := HR.next hHeld.2.2.2 hbc8
  refine hK.out _ _ ?_ (fun hHeld => ?_)
  · exact ⟨HR.cell hrc8 (b := b0) (cs := #[.int .u64 x, .int .u64 y, .slice ao (n + 16) cap]) (t := 44) (by simp) 0 rfl, HR.cell hrc8 (b := b0) (cs := #[.int .u64 x, .int .u64 y, .slice ao (n + 16) cap]) (t := 44) (by simp) 1 rfl, HR.cell hrc8 (b := b0) (cs := #[.int .u64 x, .int .u64 y, .slice ao (n + 16) cap]) (t := 44) (by simp) 2 rfl, hrc8⟩
  clear hK K
  try simp only [Act.put, List.setIfInBounds_toArray, List.set_cons_zero, List.set_cons_succ]
  refine takeH 5 (fun _ _ _ _ _ h => h) (by kernel_rfl) hHeld rfl (by kernel_rfl) (by rfl) (v := ?_) ?_ ?_
  rotate_left
  ((intro wz hz; (try dsimp only at hz); go_simp) <;> with_reducible rfl)
  try simp only [Act.put, List.setIfInBounds_toArray, List.set_cons_zero, List.set_cons_succ]
  refine takeH 6 (fun _ _ _ _ _ h => h) (by kernel_rfl) hHeld rfl (by kernel_rfl) (by rfl) (v := ?_) ?_ ?_
  rotate_left
  ((intro wz hz; (try dsimp only at hz); go_simp) <;> with_reducible rfl)
  try simp only [Act.put, List.setIfInBounds_toArray, List.set_cons_zero, List.set_cons_succ]
  refine takeH 7 (fun _ _ _ _ _ h => h) (by kernel_rfl) hHeld rfl (by kernel_rfl) (by rfl) (v := ?_) ?_ ?_
  rotate_left
  ((intro wz hz; (try dsimp only at hz); go_simp) <;> with_reducible rfl)
  try simp only [Act.put, List.setIfInBounds_toArray, List.set_cons_zero, List.set_cons_succ]
  refine takeH 8 (fun _ _ _ _ _ h => h) (by kernel_rfl) hHeld rfl (by kernel_rfl) (by rfl) (v := ?_) ?_ ?_
  rotate_left
  ((intro wz hz; (try dsimp only at hz); go_simp) <;> with_reducible rfl)
  try simp only [Act.put, List.setIfInBounds_toArray, List.set_cons_zero, List.set_cons_succ]
  refine takeH 9 (fun _ _ _ _ _ h => h) (by kernel_rfl) hHeld rfl (by kernel_rfl) (by rfl) (v := ?_) ?_ ?_
  rotate_left
  ((intro wz hz; (try dsimp only at hz); go_simp) <;> with_reducible rfl)
  try simp only [Act.put, List.setIfInBounds_toArray, List.set_cons_zero, List.set_cons_succ]
  refine wpAnyH_done (by kernel_rfl) (NoPanic.normal ?_) _
  have H9 := Lib.hid hHeld.2.2.2
  clear hHeld
  have hn1 : ¬ (n : Int) = 16 := by omega
  clear hO
  have c_b1_0 := H9.out.cell (b := b1) (cs := #[.int .u64 0, .int .u64 0, .int .u64 0]) (t := 41) (by simp) 0 rfl
  have c_b1_1 := H9.out.cell (b := b1) (cs := #[.int .u64 0, .int .u64 0, .int .u64 0]) (t := 41) (by simp) 1 rfl
  have c_b1_2 := H9.out.cell (b := b1) (cs := #[.int .u64 0, .int .u64 0, .int .u64 0]) (t := 41) (by simp) 2 rfl
  have f_b1_0 := H9.out.free (b := b1) (cs := #[.int .u64 0, .int .u64 0, .int .u64 0]) (t := 41) (by simp) 0
  have f_b1_1 := H9.out.free (b := b1) (cs := #[.int .u64 0, .int .u64 0, .int .u64 0]) (t := 41) (by simp) 1
  have f_b1_2 := H9.out.free (b := b1) (cs := #[.int .u64 0, .int .u64 0, .int .u64 0]) (t := 41) (by simp) 2
  have B4 := Lib.hid (bSet (bSet (bSet H9.out.2 (b := b1) (o := 0) (u := .int .u64 0) (by have := ho.out; omega)) (b := b1) (o := 1) (u := .int .u64 0) (by have := ho.out; omega)) (b := b1) (o := 2) (u := .int .u64 0) (by have := ho.out; omega))
  have hR := (H9.out.row (b := b1) (cs := #[.int .u64 0, .int .u64 0, .int .u64 0]) (t := 41) (by simp)).set3 (v0 := .int .u64 0) (v1 := .int .u64 0) (v2 := .int .u64 0)
  have s0 := hR.cell 0 rfl
  have s1 := hR.cell 1 rfl
  have s2 := hR.cell 2 rfl
  clear hR
  go_wp2_with fail
  refine bodyPost_ret (v := .tuple #[ntV 0 0 0, errN 6]) (by simp [results, Tryd.results24, go_sem, s0, s1, s2]) rfl ⟨rfl, B4.out⟩

end Go.Proofs.YtallfmiikjmgaaaDoor
