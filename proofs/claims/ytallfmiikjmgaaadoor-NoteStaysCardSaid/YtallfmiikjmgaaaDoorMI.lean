import Derived.Test.YtallfmiikjmgaaaDoorZWcmk
import Derived.Test.YtallfmiikjmgaaaDoorZWblkn
import Derived.Test.YtallfmiikjmgaaaDoorZWrboth
import Derived.Test.YtallfmiikjmgaaaDoorZWlong
import Derived.Deep.CutBlock
import Derived.Deep.DeepCutAuto
set_option linter.unusedVariables false
set_option linter.unusedSimpArgs false
/- Walks: package cipher: Seal. -/
namespace Go.Proofs.YtallfmiikjmgaaaDoor
open Go.RowKit

set_option maxRecDepth 8000 in
theorem qSealN (a b c d : Option Addr) (m n x y m' n' x' y' : Nat) (h : ¬ (m = 32 ∧ n = 12)) (w : World) :
    Calls Tryd.prog 41 #[.slice a m m', .slice b n n', .slice c x x', .slice d y y'] w fun e w' => e = .returned (.tuple #[.slice none 0 0, errC 1]) ∧ w' = w := by
  have cF := Lib.hid (fun w => qFitsN a b m n m' n' h w)
  clear h
  go_enter Tryd.func41, Tryd.ntmps41
  go_wp2_with fail
  refine (cF.out _).mono ?_
  rintro e w1 ⟨rfl, rfl⟩
  go_wp2_with fail
  go_ret2
  exact ⟨rfl, rfl⟩

set_option maxRecDepth 8000 in
set_option maxHeartbeats 4000000 in
theorem qSeal (bk ok ck bn on cn : Nat) (K N : List Nat) (HK : B8 32 K) (HN : B8 12 N) (hck : 32 ≤ ck) (hcn : 12 ≤ cn) (vD : Value) (D : List Nat) (ao : Option Addr) (len cap : Nat) (T : List Nat) (HT : B8 len T) (hl : len ≤ 100000) (w : World) (hbk : bk < w.heap.size) (hbn : bn < w.heap.size) (hBK : BL w bk ok K) (hBN : BL w bn on N) (hD : Seg w.heap.size w vD D) (hS : SlI w.heap.size w ao cap T) :
    Calls Tryd.prog 41 #[.slice (some ⟨bk, ok, none⟩) 32 ck, .slice (some ⟨bn, on, none⟩) 12 cn, vD, .slice ao len cap] w fun e w' => ∃ g c2, e = .returned (.tuple #[.slice (some ⟨g, 0, none⟩) (len + 16) c2, .nilIface]) ∧ OwnB w' w.heap.size (.slice (some ⟨g, 0, none⟩) (len + 16) c2) (Obol.strm K N T ++ Obol.bothL K N D (Obol.strm K N T)) ∧ Below w.heap.size w w' := by
  have cS := Lib.hid (qStream bk ok ck bn on cn K N HK HN hck hcn ao len cap T HT (by omega) w hbk hbn hBK hBN hS)
  have cM := Lib.hid (fun vC C W (h : Below w.heap.size w W) (hC : Seg W.heap.size W vC C) => qMk bk ok ck bn on cn K N HK HN hck hcn vD vC D C W (Nat.lt_of_lt_of_le hbk h.size) (Nat.lt_of_lt_of_le hbn h.size) (hBK.below h hbk) (hBN.below h hbn) ((hD.below h).base h.size) hC)
  obtain ⟨aD, cD, rfl, -⟩ := hD
  have hTl : (Obol.strm K N T).length = len := by rw [Obol.strm_len, HT.len]
  have hTb := Lib.hid (Obol.strm_lt K N HT.lt)
  obtain ⟨X, hX⟩ : ∃ x, Obol.strm K N T = x := ⟨_, rfl⟩
  rw [hX] at cS hTl hTb ⊢
  have hbl := Obol.bothL_len K N D X
  replace hX := Lib.hid hX
  clear hBK hBN hbk hbn hS HK HN HT
  go_enter Tryd.func41, Tryd.ntmps41
  go_wp2_with fail
  refine (qFitsY _ _ _ _ _).mono ?_
  rintro e w1 ⟨rfl, rfl⟩
  go_wp2_with fail
  refine cS.out.mono ?_
  rintro e w2 ⟨a2, c2, rfl, hO, hb2⟩
  have hsl := OwnB.sl hO
  have cM2 := Lib.hid (cM.out (.slice a2 len c2) X w2 hb2 ⟨a2, c2, by rw [hTl], hsl.2, hTb.out, by omega⟩)
  have O := Lib.hid hO
  have B2 := Lib.hid hb2
  clear hO hb2 hsl cM cS
  go_wp2_with fail
  refine cM2.out.mono ?_
  rintro e w3 ⟨g, rfl, hR3, hg3, hb3⟩
  have hsz := B2.out.size
  obtain ⟨v4, w4, hap, hO4, hb4, -, hnil⟩ := append_ownB w3 w1.heap.size _ X _ (O.out.below hb3) ⟨g, 0, none⟩ 16 16 hbl (fun j hj => by
    rw [addP, Nat.zero_add]
    exact hR3.cell j (u8s_get _ j hj)) (by rw [hTl, hbl]; omega) (by have := hb3.size; omega)
  obtain ⟨g4, c4, rfl⟩ := own_shape hO4 (fun h => by cases (hnil.1 h).2)
  rw [List.length_append, hTl, hbl] at hap hO4
  have O4 := Lib.hid hO4
  have B4 := Lib.hid ((bThen B2.out hb3 hsz).trans hb4)
  clear hO4 hb4 hb3 hR3 hg3 cM2 O B2 hnil hbl
  go_wp2_with (at_builtin; refine wpList_appended rfl _ _ _ _ rfl _ _ _ rfl rfl hap ?_)
  go_ret2
  exact ⟨g4, c4, rfl, O4.out, B4.out⟩

end Go.Proofs.YtallfmiikjmgaaaDoor
/- Walks: package cipher: Open. -/
namespace Go.Proofs.YtallfmiikjmgaaaDoor
open Go.RowKit

theorem strB_inj {L M : List Nat} (hL : ∀ i, L.getD i 0 < 256) (hM : ∀ i, M.getD i 0 < 256) (h : strB L = strB M) : L = M := by
  have h1 := congrArg (fun b : ByteArray => b.data.toList.map UInt8.toNat) h
  have key : ∀ X : List Nat, (∀ i, X.getD i 0 < 256) → (strB X).data.toList.map UInt8.toNat = X := fun X hX => by
    unfold strB
    rw [strOfNums_data, List.map_map, List.map_map]
    refine List.ext_getElem (by simp) fun i h1 h2 => ?_
    have := hX i
    rw [List.getD_eq_getElem?_getD, List.getElem?_eq_getElem h2] at this
    simp at this ⊢
    omega
  simp only [key L hL, key M hM] at h1
  exact h1

theorem strB_ne {L M : List Nat} (hL : ∀ i, L.getD i 0 < 256) (hM : ∀ i, M.getD i 0 < 256) (h : L ≠ M) : ((strB L).toList == (strB M).toList) = false :=
  beq_eq_false_iff_ne.2 fun e => h (strB_inj hL hM (by
    rw [ByteArray.toList_eq, ByteArray.toList_eq] at e
    exact ByteArray.ext (Array.toList_inj.1 e)))

set_option maxRecDepth 8000 in
theorem qOpenN (a b c d : Option Addr) (m n x y m' n' x' y' : Nat) (h : ¬ (m = 32 ∧ n = 12)) (w : World) :
    Calls Tryd.prog 48 #[.slice a m m', .slice b n n', .slice c x x', .slice d y y'] w fun e w' => e = .returned (.tuple #[.slice none 0 0, errC 1]) ∧ w' = w := by
  have cF := Lib.hid (fun w => qFitsN a b m n m' n' h w)
  clear h
  go_enter Tryd.func48, Tryd.ntmps48
  go_wp2_with fail
  refine (cF.out _).mono ?_
  rintro e w1 ⟨rfl, rfl⟩
  go_wp2_with fail
  go_ret2
  exact ⟨rfl, rfl⟩
set_option maxRecDepth 8000 in
theorem qOpenS (a b c d : Option Addr) (m' n' x x' y y' : Nat) (h : y < 16) (w : World) :
    Calls Tryd.prog 48 #[.slice a 32 m', .slice b 12 n', .slice c x x', .slice d y y'] w fun e w' => e = .returned (.tuple #[.slice none 0 0, errC 6]) ∧ w' = w := by
  have hw : IntKind.i64.wrap ((y : Int) - 16) = (y : Int) - 16 := by rw [IntKind.wrap_i64]; omega
  have h0 : (y : Int) - 16 < 0 := by omega
  go_enter Tryd.func48, Tryd.ntmps48
  go_wp2_with fail
  refine (qFitsY _ _ _ _ _).mono ?_
  rintro e w1 ⟨rfl, rfl⟩
  go_wp2_with fail
  go_ret2
  exact ⟨rfl, rfl⟩

set_option maxRecDepth 8000 in
set_option maxHeartbeats 4000000 in
theorem qOpen (bk ok ck bn on cn : Nat) (K N : List Nat) (HK : B8 32 K) (HN : B8 12 N) (hck : 32 ≤ ck) (hcn : 12 ≤ cn) (vD : Value) (D : List Nat) (ao : Option Addr) (n cap : Nat) (S : List Nat) (HS : B8 (n + 16) S) (hl : n ≤ 100000) (w : World) (hbk : bk < w.heap.size) (hbn : bn < w.heap.size) (hBK : BL w bk ok K) (hBN : BL w bn on N) (hD : Seg w.heap.size w vD D) (hS : SlI w.heap.size w ao cap S) :
    Calls Tryd.prog 48 #[.slice (some ⟨bk, ok, none⟩) 32 ck, .slice (some ⟨bn, on, none⟩) 12 cn, vD, .slice ao (n + 16) cap] w fun e w' => ((Obol.bothL K N D (S.take n) = S.drop n ∧ ∃ a2 c2, e = .returned (.tuple #[.slice a2 n c2, .nilIface]) ∧ OwnB w' w.heap.size (.slice a2 n c2) (Obol.strm K N (S.take n))) ∨ (Obol.bothL K N D (S.take n) ≠ S.drop n ∧ e = .returned (.tuple #[.slice none 0 0, errC 6]))) ∧ Below w.heap.size w w' := by
  obtain ⟨b, o, rfl, hb, hB⟩ := hS.bl (by rw [HS.len]; omega)
  have hcap : n + 16 ≤ cap := by have := hS.le; rw [HS.len] at this; exact this
  have hcm := hS.cap
  have hTl : (S.take n).length = n := by rw [List.length_take, HS.len]; omega
  have hRl : (S.drop n).length = 16 := by rw [List.length_drop, HS.len]; omega
  have hTb : ∀ i, (S.take n).getD i 0 < 256 := fun i => by rw [Obol.getD_take]; split; exact HS.lt i; decide
  have hRb : ∀ i, (S.drop n).getD i 0 < 256 := fun i => by rw [Obol.getD_drop]; exact HS.lt _
  have hBT : BL w b o (S.take n) := fun i hi => by
    rw [hTl] at hi
    rw [hB i (by rw [HS.len]; omega), Obol.getD_take, if_pos hi]
  have hBR : BL w b (o + n) (S.drop n) := fun i hi => by
    rw [hRl] at hi
    rw [Nat.add_assoc, hB (n + i) (by rw [HS.len]; omega), Obol.getD_drop]
  have hST : SlI w.heap.size w (some ⟨b, o, none⟩) cap (S.take n) := ⟨by rw [hTl]; omega, hcm, (fun h => by cases h), fun _ => ⟨b, o, rfl, hb, hBT⟩⟩
  have cS := Lib.hid (fun W (h : Below w.heap.size w W) => qStream bk ok ck bn on cn K N HK HN hck hcn (some ⟨b, o, none⟩) n cap (S.take n) ⟨hTl, hTb⟩ (by omega) W (Nat.lt_of_lt_of_le hbk h.size) (Nat.lt_of_lt_of_le hbn h.size) (hBK.below h hbk) (hBN.below h hbn) ⟨hST.le, hST.cap, hST.no, fun h0 => by
    obtain ⟨b', o', e1, e2, e3⟩ := (hST.below h).bl h0
    exact ⟨b', o', e1, Nat.lt_of_lt_of_le e2 h.size, e3⟩⟩)
  have cM := Lib.hid (qMk bk ok ck bn on cn K N HK HN hck hcn vD (.slice (some ⟨b, o, none⟩) n cap) D (S.take n) w hbk hbn hBK hBN hD ⟨_, cap, by rw [hTl], hST, hTb, by omega⟩)
  have hBR2 := Lib.hid (⟨hBR, hb⟩ : BL w b (o + n) (S.drop n) ∧ b < w.heap.size)
  have hsl := fun W => slice_rest (P := Tryd.prog) 42 5 Tryd.underlying42 info8 b o (n + 16) cap n (by omega) hcap W
  rw [if_neg (by omega), show n + 16 - n = 16 by omega] at hsl
  have hbl := Obol.bothL_len K N D (S.take n)
  have hbb := Lib.hid (Obol.bothL_lt K N D (S.take n))
  have hw := wrap_small (x := (n : Int) + 16 - 16) (by omega) (by omega)
  have hn16 : (n : Int) + 16 - 16 = n := by omega
  obtain ⟨M, hM⟩ : ∃ x, Obol.bothL K N D (S.take n) = x := ⟨_, rfl⟩
  obtain ⟨R, hR⟩ : ∃ x, S.drop n = x := ⟨_, rfl⟩
  rw [hM] at hbl hbb cM ⊢
  rw [hR] at hRl hRb hBR2 ⊢
  have hRb2 := Lib.hid hRb
  obtain ⟨aD, cD, rfl, -⟩ := hD
  have hnc : (n : Int) ≤ (cap : Int) := by omega
  have hnc2 : n ≤ cap := by omega
  replace hM := Lib.hid hM
  replace hR := Lib.hid hR
  clear hBK hBN hbk hbn hS HK HN HS hB hBT hBR hST hTb hRb hTl
  go_enter Tryd.func48, Tryd.ntmps48
  go_wp2_with fail
  refine (qFitsY _ _ _ _ _).mono ?_
  rintro e w1 ⟨rfl, rfl⟩
  go_wp2_with fail
  refine cM.out.mono ?_
  rintro e w2 ⟨g, rfl, hR2, hg2, hb2⟩
  have hRd : Row w2.drew g (u8s M) 5 := hR2.drew
  have hc1 := conv8 (cap := 16) hRd.bl hbl
  have hBd : BL w2.drew b (o + n) R := hBR2.out.1.below (bDrew hb2) hBR2.out.2
  have hc2 := conv8 (cap := cap - n) hBd hRl
  have B3 := Lib.hid (bDrew hb2)
  clear hRd hBd hR2 hg2 hb2 hBR2 cM
  by_cases hE : M = R
  · subst hE
    have cS2 := Lib.hid (cS.out _ B3.out)
    have hMe := Lib.hid (hM.out.trans hR.out.symm)
    go_wp2_with fail
    go_region
    go_wp2_with fail
    refine cS2.out.mono ?_
    rintro e w4 ⟨a2, c2, rfl, hO, hb4⟩
    have O := Lib.hid (hO.base B3.out.size)
    have B4 := Lib.hid (bThen B3.out hb4 B3.out.size)
    clear hO hb4
    go_wp2_with fail
    go_ret2
    exact ⟨⟨a2, c2, rfl, O.out⟩, B4.out⟩
  · have hne := strB_ne hbb.out hRb2.out hE
    replace hE := Lib.hid hE
    go_wp2_with fail
    go_region
    go_wp2_with fail
    go_ret2
    exact ⟨Or.inr ⟨hE.out, rfl⟩, B3.out⟩

end Go.Proofs.YtallfmiikjmgaaaDoor
/- Walks: the statements of layer 6: their head. -/
namespace Obol
theorem back_take (K N D T : List Nat) {n : Nat} (h : T.length = n) : (strm K N T ++ bothL K N D (strm K N T)).take n = strm K N T := by
  rw [List.take_append_of_le_length (by rw [strm_len, h]; exact Nat.le_refl _), List.take_of_length_le (by rw [strm_len, h]; exact Nat.le_refl _)]
theorem back_drop (K N D T : List Nat) {n : Nat} (h : T.length = n) : (strm K N T ++ bothL K N D (strm K N T)).drop n = bothL K N D (strm K N T) := by
  rw [List.drop_append_of_le_length (by rw [strm_len, h]; exact Nat.le_refl _), List.drop_of_length_le (by rw [strm_len, h]; exact Nat.le_refl _), List.nil_append]
theorem sealed_len (K N D T : List Nat) : (strm K N T ++ bothL K N D (strm K N T)).length = T.length + 16 := by rw [List.length_append, strm_len, bothL_len]
theorem sealed_lt (K N D : List Nat) {T : List Nat} (h : ∀ i, T.getD i 0 < 256) (i : Nat) : (strm K N T ++ bothL K N D (strm K N T)).getD i 0 < 256 := lt_app (strm_lt K N h) (bothL_lt K N D _) i
theorem blk_zero : (blkL (cpS 32 [] 0) (cpS 12 [] 0) 0).getD 0 0 = 118 ∧ (blkL (cpS 32 [] 0) (cpS 12 [] 0) 0).getD 1 0 = 184 := by decide +kernel
end Obol
namespace Go.Proofs.YtallfmiikjmgaaaDoor
open Go.RowKit

theorem make8 (n : Nat) (hn : n ≤ 1000000) (W : World) : (Instr.makeSlice 42 (.int .i64 (n : Int)) (.int .i64 (n : Int))).run Tryd.prog W = .ok (.slice (some ⟨W.heap.size, 0, none⟩) n n) (W.alloc (.cells (u8s (Obol.cpS n [] 0)) 5)) := by
  obtain ⟨ti, hti, htz, hts, htb⟩ := info_parts info8
  have h := run_make (P := Tryd.prog) W 42 5 ti (.int .u8 0) Tryd.underlying42 hti htz .i64 .i64 (n : Int) (n : Int) (by omega) (by omega) (by rw [htb]; omega) (by omega)
  rw [hts] at h
  rw [h]
  have e : madeCells (Value.int .u8 0).cells n = u8s (Obol.cpS n [] 0) := Array.toList_inj.1 ((toList_madeCells_one (.int .u8 0) n).trans (by unfold u8s; simp [Obol.cpS]))
  rw [← e]
  simp
theorem cp0_b8 (n : Nat) : B8 n (Obol.cpS n [] 0) := ⟨Obol.cpS_len _ _ _, fun i => by rw [Obol.cpS_get _ _ _ _ (Nat.zero_le _), if_neg (by omega)]; decide⟩
theorem seg_nil (base : Nat) (w : World) : Seg base w (.slice none 0 0) [] := ⟨none, 0, rfl, ⟨by decide, by omega, fun _ => ⟨rfl, rfl⟩, fun h => absurd h (by decide)⟩, fun i => by simp, by decide⟩
theorem own_sli {w : World} {base g n cap : Nat} {L : List Nat} (h : OwnB w base (.slice (some ⟨g, 0, none⟩) n cap) L) : SlI w.heap.size w (some ⟨g, 0, none⟩) cap L := (OwnB.sl h).2
theorem own_conv {w : World} {base n c : Nat} {a : Option Addr} {L : List Nat} (h : OwnB w base (.slice a n c) L) : (convert 42 9 (.slice a n c)).run Tryd.prog w = .ok (.string (strB L)) w := by
  obtain ⟨h1, h2⟩ := OwnB.sl h
  subst h1
  exact convAny rfl h2.arg.2
theorem str_t : strB [116] = { data := #[116] } := rfl

end Go.Proofs.YtallfmiikjmgaaaDoor
/- Walks: the statements of layer 6: what they share. -/
namespace Go.Proofs.YtallfmiikjmgaaaDoor
open Go.RowKit

theorem sl6 {w : World} {ao : Option Addr} {len cap : Nat} {L : List Nat} (H : B8 len L) (hl : len ≤ cap) (hc : cap ≤ 9223372036854775807) (hn : ao = none → len = 0 ∧ cap = 0) (hb : 0 < len → ∃ b o, ao = some ⟨b, o, none⟩ ∧ BL w b o L) : SlI w.heap.size w ao cap L :=
  ⟨by rw [H.len]; exact hl, hc, (fun h => by rw [H.len]; exact hn h), fun h => by
    rw [H.len] at h
    obtain ⟨b, o, h1, h2⟩ := hb h
    exact ⟨b, o, h1, h2.lt (by rw [H.len]; exact h), h2⟩⟩
theorem SlI.up {base base' : Nat} {w : World} {ao : Option Addr} {cap : Nat} {L : List Nat} (h : SlI base w ao cap L) (hb : base ≤ base') : SlI base' w ao cap L :=
  ⟨h.le, h.cap, h.no, fun h0 => by
    obtain ⟨b, o, h1, h2, h3⟩ := h.bl h0
    exact ⟨b, o, h1, by omega, h3⟩⟩
/-- An argument in a later world. -/
theorem SlI.next {w W : World} {ao : Option Addr} {cap : Nat} {L : List Nat} (h : SlI w.heap.size w ao cap L) (hb : Below w.heap.size w W) : SlI W.heap.size W ao cap L := (h.below hb).up hb.size
theorem SlI.seg {base : Nat} {w : World} {ao : Option Addr} {len cap : Nat} {L : List Nat} (h : SlI base w ao cap L) (H : B8 len L) (hl : len ≤ 1000000) : Seg base w (.slice ao len cap) L := ⟨ao, cap, by rw [H.len], h, H.lt, by rw [H.len]; exact hl⟩
/-- A key, opened. -/
theorem SlI.key {w : World} {ao : Option Addr} {cap n : Nat} {L : List Nat} (h : SlI w.heap.size w ao cap L) (H : B8 n L) (h0 : 0 < n) : ∃ b o, ao = some ⟨b, o, none⟩ ∧ b < w.heap.size ∧ BL w b o L ∧ n ≤ cap := by
  obtain ⟨b, o, h1, h2, h3⟩ := h.bl (by rw [H.len]; exact h0)
  exact ⟨b, o, h1, h2, h3, by have := h.le; rw [H.len] at this; exact this⟩
theorem SlI.conv {base : Nat} {w : World} {ao : Option Addr} {len cap : Nat} {L : List Nat} (h : SlI base w ao cap L) (H : L.length = len) : (convert 42 9 (.slice ao len cap)).run Tryd.prog w = .ok (.string (strB L)) w := by
  subst H
  exact convAny rfl h.arg.2
theorem strB_app (L M : List Nat) : strB L ++ strB M = strB (L ++ M) := by
  unfold strB
  rw [List.map_append]
  apply ByteArray.ext
  apply Array.toList_inj.1
  simp [strOfNums]
theorem strB_size (L : List Nat) : (strB L).size = L.length := by unfold strB; rw [strOfNums_size, List.length_map]
end Go.Proofs.YtallfmiikjmgaaaDoor
