import Derived.Test.YtallfmiikjmgaaaZWcmk
import Derived.Test.YtallfmiikjmgaaaZWblkn
set_option linter.unusedVariables false
set_option linter.unusedSimpArgs false
/- Walks: package cipher: Seal. -/
namespace Go.Proofs.Ytallfmiikjmgaaa
open Go.RowKit

set_option maxRecDepth 8000 in
theorem qSealN (a b c d : Option Addr) (m n x y m' n' x' y' : Nat) (h : ¬ (m = 32 ∧ n = 12)) (w : World) :
    Calls Try.prog 15 #[.slice a m m', .slice b n n', .slice c x x', .slice d y y'] w fun e w' => e = .returned (.tuple #[.slice none 0 0, errC 1]) ∧ w' = w := by
  have cF := Lib.hid (fun w => qFitsN a b m n m' n' h w)
  clear h
  go_enter Try.func15, Try.ntmps15
  go_wp2_with fail
  refine (cF.out _).mono ?_
  rintro e w1 ⟨rfl, rfl⟩
  go_wp2_with fail
  go_ret2
  exact ⟨rfl, rfl⟩

set_option maxRecDepth 8000 in
set_option maxHeartbeats 4000000 in
theorem qSeal (bk ok ck bn on cn : Nat) (K N : List Nat) (HK : B8 32 K) (HN : B8 12 N) (hck : 32 ≤ ck) (hcn : 12 ≤ cn) (vD : Value) (D : List Nat) (ao : Option Addr) (len cap : Nat) (T : List Nat) (HT : B8 len T) (hl : len ≤ 100000) (w : World) (hbk : bk < w.heap.size) (hbn : bn < w.heap.size) (hBK : BL w bk ok K) (hBN : BL w bn on N) (hD : Seg w.heap.size w vD D) (hS : SlI w.heap.size w ao cap T) :
    Calls Try.prog 15 #[.slice (some ⟨bk, ok, none⟩) 32 ck, .slice (some ⟨bn, on, none⟩) 12 cn, vD, .slice ao len cap] w fun e w' => ∃ g c2, e = .returned (.tuple #[.slice (some ⟨g, 0, none⟩) (len + 16) c2, .nilIface]) ∧ OwnB w' w.heap.size (.slice (some ⟨g, 0, none⟩) (len + 16) c2) (Obol.strm K N T ++ Obol.bothL K N D (Obol.strm K N T)) ∧ Below w.heap.size w w' := by
  have cS := Lib.hid (qStream bk ok ck bn on cn K N HK HN hck hcn ao len cap T HT (by omega) w hbk hbn hBK hBN hS)
  have cM := Lib.hid (fun vC C W (h : Below w.heap.size w W) (hC : Seg W.heap.size W vC C) => qMk bk ok ck bn on cn K N HK HN hck hcn vD vC D C W (Nat.lt_of_lt_of_le hbk h.size) (Nat.lt_of_lt_of_le hbn h.size) (hBK.below h hbk) (hBN.below h hbn) ((hD.below h).base h.size) hC)
  obtain ⟨aD, cD, rfl, -⟩ := hD
  have hTl : (Obol.strm K N T).length = len := by rw [Obol.strm_len, HT.len]
  have hTb := Lib.hid (Obol.strm_lt K N HT.lt)
  obtain ⟨X, hX⟩ : ∃ x, Obol.strm K N T = x := ⟨_, rfl⟩
  rw [hX] at cS hTl hTb ⊢
  have hbl := Obol.bothL_len K N D X
  replace hX := Lib.hid hX
  clear hBK hBN hbk hbn hS HK HN HT
  go_enter Try.func15, Try.ntmps15
  go_wp2_with fail
  refine (qFitsY _ _ _ _ _).mono ?_
  rintro e w1 ⟨rfl, rfl⟩
  go_wp2_with fail
  refine cS.out.mono ?_
  rintro e w2 ⟨a2, c2, rfl, hO, hb2⟩
  have hsl := OwnB.sl hO
  have cM2 := Lib.hid (cM.out (.slice a2 len c2) X w2 hb2 ⟨a2, c2, by rw [hTl], hsl.2, hTb.out, by omega⟩)
  have O := Lib.hid hO
  have B2 := Lib.hid hb2
  clear hO hb2 hsl cM cS
  go_wp2_with fail
  refine cM2.out.mono ?_
  rintro e w3 ⟨g, rfl, hR3, hg3, hb3⟩
  have hsz := B2.out.size
  obtain ⟨v4, w4, hap, hO4, hb4, -, hnil⟩ := append_ownB w3 w1.heap.size _ X _ (O.out.below hb3) ⟨g, 0, none⟩ 16 16 hbl (fun j hj => by
    rw [addP, Nat.zero_add]
    exact hR3.cell j (u8s_get _ j hj)) (by rw [hTl, hbl]; omega) (by have := hb3.size; omega)
  obtain ⟨g4, c4, rfl⟩ := own_shape hO4 (fun h => by cases (hnil.1 h).2)
  rw [List.length_append, hTl, hbl] at hap hO4
  have O4 := Lib.hid hO4
  have B4 := Lib.hid ((bThen B2.out hb3 hsz).trans hb4)
  clear hO4 hb4 hb3 hR3 hg3 cM2 O B2 hnil hbl
  go_wp2_with (at_builtin; refine wpList_appended rfl _ _ _ _ rfl _ _ _ rfl rfl hap ?_)
  go_ret2
  exact ⟨g4, c4, rfl, O4.out, B4.out⟩

end Go.Proofs.Ytallfmiikjmgaaa
