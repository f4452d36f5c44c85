import Derived.Test.YtallfmiikjmgaaaZWseal
set_option linter.unusedVariables false
set_option linter.unusedSimpArgs false
/- Walks: package cipher: Open. -/
namespace Go.Proofs.Ytallfmiikjmgaaa
open Go.RowKit

theorem strB_inj {L M : List Nat} (hL : ∀ i, L.getD i 0 < 256) (hM : ∀ i, M.getD i 0 < 256) (h : strB L = strB M) : L = M := by
  have h1 := congrArg (fun b : ByteArray => b.data.toList.map UInt8.toNat) h
  have key : ∀ X : List Nat, (∀ i, X.getD i 0 < 256) → (strB X).data.toList.map UInt8.toNat = X := fun X hX => by
    unfold strB
    rw [strOfNums_data, List.map_map, List.map_map]
    refine List.ext_getElem (by simp) fun i h1 h2 => ?_
    have := hX i
    rw [List.getD_eq_getElem?_getD, List.getElem?_eq_getElem h2] at this
    simp at this ⊢
    omega
  simp only [key L hL, key M hM] at h1
  exact h1

theorem strB_ne {L M : List Nat} (hL : ∀ i, L.getD i 0 < 256) (hM : ∀ i, M.getD i 0 < 256) (h : L ≠ M) : ((strB L).toList == (strB M).toList) = false :=
  beq_eq_false_iff_ne.2 fun e => h (strB_inj hL hM (by
    rw [ByteArray.toList_eq, ByteArray.toList_eq] at e
    exact ByteArray.ext (Array.toList_inj.1 e)))

set_option maxRecDepth 8000 in
theorem qOpenN (a b c d : Option Addr) (m n x y m' n' x' y' : Nat) (h : ¬ (m = 32 ∧ n = 12)) (w : World) :
    Calls Try.prog 19 #[.slice a m m', .slice b n n', .slice c x x', .slice d y y'] w fun e w' => e = .returned (.tuple #[.slice none 0 0, errC 1]) ∧ w' = w := by
  have cF := Lib.hid (fun w => qFitsN a b m n m' n' h w)
  clear h
  go_enter Try.func19, Try.ntmps19
  go_wp2_with fail
  refine (cF.out _).mono ?_
  rintro e w1 ⟨rfl, rfl⟩
  go_wp2_with fail
  go_ret2
  exact ⟨rfl, rfl⟩
set_option maxRecDepth 8000 in
theorem qOpenS (a b c d : Option Addr) (m' n' x x' y y' : Nat) (h : y < 16) (w : World) :
    Calls Try.prog 19 #[.slice a 32 m', .slice b 12 n', .slice c x x', .slice d y y'] w fun e w' => e = .returned (.tuple #[.slice none 0 0, errC 6]) ∧ w' = w := by
  have hw : IntKind.i64.wrap ((y : Int) - 16) = (y : Int) - 16 := by rw [IntKind.wrap_i64]; omega
  have h0 : (y : Int) - 16 < 0 := by omega
  go_enter Try.func19, Try.ntmps19
  go_wp2_with fail
  refine (qFitsY _ _ _ _ _).mono ?_
  rintro e w1 ⟨rfl, rfl⟩
  go_wp2_with fail
  go_ret2
  exact ⟨rfl, rfl⟩

set_option maxRecDepth 8000 in
set_option maxHeartbeats 4000000 in
theorem qOpen (bk ok ck bn on cn : Nat) (K N : List Nat) (HK : B8 32 K) (HN : B8 12 N) (hck : 32 ≤ ck) (hcn : 12 ≤ cn) (vD : Value) (D : List Nat) (ao : Option Addr) (n cap : Nat) (S : List Nat) (HS : B8 (n + 16) S) (hl : n ≤ 100000) (w : World) (hbk : bk < w.heap.size) (hbn : bn < w.heap.size) (hBK : BL w bk ok K) (hBN : BL w bn on N) (hD : Seg w.heap.size w vD D) (hS : SlI w.heap.size w ao cap S) :
    Calls Try.prog 19 #[.slice (some ⟨bk, ok, none⟩) 32 ck, .slice (some ⟨bn, on, none⟩) 12 cn, vD, .slice ao (n + 16) cap] w fun e w' => ((Obol.bothL K N D (S.take n) = S.drop n ∧ ∃ a2 c2, e = .returned (.tuple #[.slice a2 n c2, .nilIface]) ∧ OwnB w' w.heap.size (.slice a2 n c2) (Obol.strm K N (S.take n))) ∨ (Obol.bothL K N D (S.take n) ≠ S.drop n ∧ e = .returned (.tuple #[.slice none 0 0, errC 6]))) ∧ Below w.heap.size w w' := by
  obtain ⟨b, o, rfl, hb, hB⟩ := hS.bl (by rw [HS.len]; omega)
  have hcap : n + 16 ≤ cap := by have := hS.le; rw [HS.len] at this; exact this
  have hcm := hS.cap
  have hTl : (S.take n).length = n := by rw [List.length_take, HS.len]; omega
  have hRl : (S.drop n).length = 16 := by rw [List.length_drop, HS.len]; omega
  have hTb : ∀ i, (S.take n).getD i 0 < 256 := fun i => by rw [Obol.getD_take]; split; exact HS.lt i; decide
  have hRb : ∀ i, (S.drop n).getD i 0 < 256 := fun i => by rw [Obol.getD_drop]; exact HS.lt _
  have hBT : BL w b o (S.take n) := fun i hi => by
    rw [hTl] at hi
    rw [hB i (by rw [HS.len]; omega), Obol.getD_take, if_pos hi]
  have hBR : BL w b (o + n) (S.drop n) := fun i hi => by
    rw [hRl] at hi
    rw [Nat.add_assoc, hB (n + i) (by rw [HS.len]; omega), Obol.getD_drop]
  have hST : SlI w.heap.size w (some ⟨b, o, none⟩) cap (S.take n) := ⟨by rw [hTl]; omega, hcm, (fun h => by cases h), fun _ => ⟨b, o, rfl, hb, hBT⟩⟩
  have cS := Lib.hid (fun W (h : Below w.heap.size w W) => qStream bk ok ck bn on cn K N HK HN hck hcn (some ⟨b, o, none⟩) n cap (S.take n) ⟨hTl, hTb⟩ (by omega) W (Nat.lt_of_lt_of_le hbk h.size) (Nat.lt_of_lt_of_le hbn h.size) (hBK.below h hbk) (hBN.below h hbn) ⟨hST.le, hST.cap, hST.no, fun h0 => by
    obtain ⟨b', o', e1, e2, e3⟩ := (hST.below h).bl h0
    exact ⟨b', o', e1, Nat.lt_of_lt_of_le e2 h.size, e3⟩⟩)
  have cM := Lib.hid (qMk bk ok ck bn on cn K N HK HN hck hcn vD (.slice (some ⟨b, o, none⟩) n cap) D (S.take n) w hbk hbn hBK hBN hD ⟨_, cap, by rw [hTl], hST, hTb, by omega⟩)
  have hBR2 := Lib.hid (⟨hBR, hb⟩ : BL w b (o + n) (S.drop n) ∧ b < w.heap.size)
  have hsl := fun W => slice_rest (P := Try.prog) 22 5 Try.underlying22 info8 b o (n + 16) cap n (by omega) hcap W
  rw [if_neg (by omega), show n + 16 - n = 16 by omega] at hsl
  have hbl := Obol.bothL_len K N D (S.take n)
  have hbb := Lib.hid (Obol.bothL_lt K N D (S.take n))
  have hw := wrap_small (x := (n : Int) + 16 - 16) (by omega) (by omega)
  have hn16 : (n : Int) + 16 - 16 = n := by omega
  obtain ⟨M, hM⟩ : ∃ x, Obol.bothL K N D (S.take n) = x := ⟨_, rfl⟩
  obtain ⟨R, hR⟩ : ∃ x, S.drop n = x := ⟨_, rfl⟩
  rw [hM] at hbl hbb cM ⊢
  rw [hR] at hRl hRb hBR2 ⊢
  have hRb2 := Lib.hid hRb
  obtain ⟨aD, cD, rfl, -⟩ := hD
  have hnc : (n : Int) ≤ (cap : Int) := by omega
  have hnc2 : n ≤ cap := by omega
  replace hM := Lib.hid hM
  replace hR := Lib.hid hR
  clear hBK hBN hbk hbn hS HK HN HS hB hBT hBR hST hTb hRb hTl
  go_enter Try.func19, Try.ntmps19
  go_wp2_with fail
  refine (qFitsY _ _ _ _ _).mono ?_
  rintro e w1 ⟨rfl, rfl⟩
  go_wp2_with fail
  refine cM.out.mono ?_
  rintro e w2 ⟨g, rfl, hR2, hg2, hb2⟩
  have hRd : Row w2.drew g (u8s M) 5 := hR2.drew
  have hc1 := conv8 (cap := 16) hRd.bl hbl
  have hBd : BL w2.drew b (o + n) R := hBR2.out.1.below (bDrew hb2) hBR2.out.2
  have hc2 := conv8 (cap := cap - n) hBd hRl
  have B3 := Lib.hid (bDrew hb2)
  clear hRd hBd hR2 hg2 hb2 hBR2 cM
  by_cases hE : M = R
  · subst hE
    have cS2 := Lib.hid (cS.out _ B3.out)
    have hMe := Lib.hid (hM.out.trans hR.out.symm)
    go_wp2_with fail
    go_region
    go_wp2_with fail
    refine cS2.out.mono ?_
    rintro e w4 ⟨a2, c2, rfl, hO, hb4⟩
    have O := Lib.hid (hO.base B3.out.size)
    have B4 := Lib.hid (bThen B3.out hb4 B3.out.size)
    clear hO hb4
    go_wp2_with fail
    go_ret2
    exact ⟨⟨a2, c2, rfl, O.out⟩, B4.out⟩
  · have hne := strB_ne hbb.out hRb2.out hE
    replace hE := Lib.hid hE
    go_wp2_with fail
    go_region
    go_wp2_with fail
    go_ret2
    exact ⟨Or.inr ⟨hE.out, rfl⟩, B3.out⟩

end Go.Proofs.Ytallfmiikjmgaaa
