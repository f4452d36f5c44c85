import Derived.Test.YtallfmiikjmgaaaZWrboth
import Derived.Test.YtallfmiikjmgaaaZWopen6
import Derived.Test.YtallfmiikjmgaaaZWlong
set_option linter.unusedVariables false
set_option linter.unusedSimpArgs false
/- Walks: the statements of layer 6: their head. -/
namespace Obol
theorem back_take (K N D T : List Nat) {n : Nat} (h : T.length = n) : (strm K N T ++ bothL K N D (strm K N T)).take n = strm K N T := by
  rw [List.take_append_of_le_length (by rw [strm_len, h]; exact Nat.le_refl _), List.take_of_length_le (by rw [strm_len, h]; exact Nat.le_refl _)]
theorem back_drop (K N D T : List Nat) {n : Nat} (h : T.length = n) : (strm K N T ++ bothL K N D (strm K N T)).drop n = bothL K N D (strm K N T) := by
  rw [List.drop_append_of_le_length (by rw [strm_len, h]; exact Nat.le_refl _), List.drop_of_length_le (by rw [strm_len, h]; exact Nat.le_refl _), List.nil_append]
theorem sealed_len (K N D T : List Nat) : (strm K N T ++ bothL K N D (strm K N T)).length = T.length + 16 := by rw [List.length_append, strm_len, bothL_len]
theorem sealed_lt (K N D : List Nat) {T : List Nat} (h : ∀ i, T.getD i 0 < 256) (i : Nat) : (strm K N T ++ bothL K N D (strm K N T)).getD i 0 < 256 := lt_app (strm_lt K N h) (bothL_lt K N D _) i
theorem blk_zero : (blkL (cpS 32 [] 0) (cpS 12 [] 0) 0).getD 0 0 = 118 ∧ (blkL (cpS 32 [] 0) (cpS 12 [] 0) 0).getD 1 0 = 184 := by decide +kernel
end Obol
namespace Go.Proofs.Ytallfmiikjmgaaa
open Go.RowKit

theorem make8 (n : Nat) (hn : n ≤ 1000000) (W : World) : (Instr.makeSlice 22 (.int .i64 (n : Int)) (.int .i64 (n : Int))).run Try.prog W = .ok (.slice (some ⟨W.heap.size, 0, none⟩) n n) (W.alloc (.cells (u8s (Obol.cpS n [] 0)) 5)) := by
  obtain ⟨ti, hti, htz, hts, htb⟩ := info_parts info8
  have h := run_make (P := Try.prog) W 22 5 ti (.int .u8 0) Try.underlying22 hti htz .i64 .i64 (n : Int) (n : Int) (by omega) (by omega) (by rw [htb]; omega) (by omega)
  rw [hts] at h
  rw [h]
  have e : madeCells (Value.int .u8 0).cells n = u8s (Obol.cpS n [] 0) := Array.toList_inj.1 ((toList_madeCells_one (.int .u8 0) n).trans (by unfold u8s; simp [Obol.cpS]))
  rw [← e]
  simp
theorem cp0_b8 (n : Nat) : B8 n (Obol.cpS n [] 0) := ⟨Obol.cpS_len _ _ _, fun i => by rw [Obol.cpS_get _ _ _ _ (Nat.zero_le _), if_neg (by omega)]; decide⟩
theorem seg_nil (base : Nat) (w : World) : Seg base w (.slice none 0 0) [] := ⟨none, 0, rfl, ⟨by decide, by omega, fun _ => ⟨rfl, rfl⟩, fun h => absurd h (by decide)⟩, fun i => by simp, by decide⟩
theorem own_sli {w : World} {base g n cap : Nat} {L : List Nat} (h : OwnB w base (.slice (some ⟨g, 0, none⟩) n cap) L) : SlI w.heap.size w (some ⟨g, 0, none⟩) cap L := (OwnB.sl h).2
theorem own_conv {w : World} {base n c : Nat} {a : Option Addr} {L : List Nat} (h : OwnB w base (.slice a n c) L) : (convert 22 9 (.slice a n c)).run Try.prog w = .ok (.string (strB L)) w := by
  obtain ⟨h1, h2⟩ := OwnB.sl h
  subst h1
  exact convAny rfl h2.arg.2
theorem str_t : strB [116] = { data := #[116] } := rfl

set_option maxRecDepth 8000 in
set_option maxHeartbeats 4000000 in
theorem up6 (w : World) : Calls Try.prog 12 #[] w fun e w' => e = .returned (.bool true) ∧ Below w.heap.size w w' := by
  have mk32 : ∀ W, (Instr.makeSlice 22 (.int .i64 32) (.int .i64 32)).run Try.prog W = .ok (.slice (some ⟨W.heap.size, 0, none⟩) 32 32) (W.alloc (.cells (u8s (Obol.cpS 32 [] 0)) 5)) := fun W => make8 32 (by omega) W
  have mk12 : ∀ W, (Instr.makeSlice 22 (.int .i64 12) (.int .i64 12)).run Try.prog W = .ok (.slice (some ⟨W.heap.size, 0, none⟩) 12 12) (W.alloc (.cells (u8s (Obol.cpS 12 [] 0)) 5)) := fun W => make8 12 (by omega) W
  have hK := Lib.hid (cp0_b8 32)
  have hN := Lib.hid (cp0_b8 12)
  have hz := Lib.hid Obol.blk_zero
  go_enter Try.func12, Try.ntmps12
  go_upto_region 3 with fail
  have H1 := Lib.hid (((HR.refl w).new (u8s (Obol.cpS 32 [] 0)) 5).new (u8s (Obol.cpS 12 [] 0)) 5)
  simp only [World.size_alloc] at H1
  generalize (w.alloc (.cells (u8s (Obol.cpS 32 [] 0)) 5)).alloc (.cells (u8s (Obol.cpS 12 [] 0)) 5) = w1 at H1 ⊢
  generalize Obol.cpS 32 [] 0 = K at hK hz H1
  generalize Obol.cpS 12 [] 0 = N at hN hz H1
  obtain ⟨bn, hbn⟩ : ∃ x, w.heap.size + 1 = x := ⟨_, rfl⟩
  obtain ⟨bk, hbk⟩ : ∃ x, w.heap.size = x := ⟨_, rfl⟩
  rw [hbn] at H1 ⊢
  have H2 : Hid (HR w w1 [(bn, u8s N, 5), (bk, u8s K, 5)]) := Lib.hid (by rw [← hbk]; exact H1.out)
  rw [hbk]
  have hkn : Hid (∀ {rs : List (Nat × Array Value × TypeId)}, rs = rs → w.heap.size ≤ bk ∧ w.heap.size ≤ bn) := Lib.hid (fun _ => by omega)
  replace hbk := Lib.hid hbk
  replace hbn := Lib.hid hbn
  clear H1 mk32 mk12
  have blk : ∀ (W : World), HR w W [(bn, u8s N, 5), (bk, u8s K, 5)] → (bk < W.heap.size ∧ bn < W.heap.size ∧ BL W bk 0 K ∧ BL W bn 0 N) := fun _ h => ⟨h.lt (b := bk) (cs := u8s K) (t := 5) (by simp), h.lt (b := bn) (cs := u8s N) (t := 5) (by simp), (h.row (b := bk) (cs := u8s K) (t := 5) (by simp)).bl, (h.row (b := bn) (cs := u8s N) (t := 5) (by simp)).bl⟩
  replace blk := Lib.hid blk
  have cB := Lib.hid (qBlock bk 0 32 bn 0 12 K N hK.out hN.out 0 (by omega) (by omega) (by omega) (by omega) w1 (blk.out _ H2.out).1 (blk.out _ H2.out).2.1 (blk.out _ H2.out).2.2.1 (blk.out _ H2.out).2.2.2)
  go_wp2_with fail
  refine cB.out.mono ?_
  rintro e w3 ⟨g3, c3, rfl, hO3, hb3⟩
  rw [show (0 : Int).toNat = 0 from rfl] at hO3
  have H3 := Lib.hid (H2.out.next hb3)
  have R3 := own_cell hO3 (Obol.blk_len _ _ _) (i := 0) (by omega) (by omega)
  have R4 := own_cell hO3 (Obol.blk_len _ _ _) (i := 1) (by omega) (by omega)
  rw [show (0 : Int).toNat = 0 from rfl, hz.out.1] at R3
  rw [show (1 : Int).toNat = 1 from rfl, hz.out.2] at R4
  have hg3 := own_lt hO3
  replace R3 := Lib.hid R3
  replace R4 := Lib.hid R4
  clear hO3 hb3 cB H2
  have RT := Row.new w3 #[.int .u8 116] 5
  have hcs := conv_lit (w3.alloc (.cells #[.int .u8 116] 5)) w3.heap.size 1 #[.int .u8 116] RT
  have hbf : Below w3.heap.size w3 ((w3.alloc (.cells #[.int .u8 116] 5)).freeze ⟨w3.heap.size, 1, none⟩ 1) := bFreeze (bAlloc (Below.refl _ _) _) (Nat.le_refl _) _ _
  have hblt : BL ((w3.alloc (.cells #[.int .u8 116] 5)).freeze ⟨w3.heap.size, 1, none⟩ 1) w3.heap.size 0 [116] := fun i hi => by
    rw [cell_freeze]
    exact (show Row _ _ (u8s [116]) _ from RT).bl i hi
  have hzs : ((w3.alloc (.cells #[.int .u8 116] 5)).freeze ⟨w3.heap.size, 1, none⟩ 1).heap.size = w3.heap.size + 1 := by rw [size_freeze]; simp
  have hST : SlI ((w3.alloc (.cells #[.int .u8 116] 5)).freeze ⟨w3.heap.size, 1, none⟩ 1).heap.size ((w3.alloc (.cells #[.int .u8 116] 5)).freeze ⟨w3.heap.size, 1, none⟩ 1) (some ⟨w3.heap.size, 0, none⟩) 1 [116] :=
    ⟨by decide, by decide, (fun h => by cases h), fun _ => ⟨_, _, rfl, by omega, hblt⟩⟩
  have H5 := Lib.hid (H3.out.next hbf)
  have hbf2 := Lib.hid hbf
  have hT8 : B8 1 [116] := (B8.of (L := [116]) (by decide))
  replace hzs := Lib.hid hzs
  have cS := Lib.hid (qSeal bk 0 32 bn 0 12 K N hK.out hN.out (by omega) (by omega) (.slice none 0 0) [] (some ⟨w3.heap.size, 0, none⟩) 1 1 [116] hT8 (by omega) _ (blk.out _ H5.out).1 (blk.out _ H5.out).2.1 (blk.out _ H5.out).2.2.1 (blk.out _ H5.out).2.2.2 (seg_nil _ _) hST)
  clear RT hbf hblt hST
  go_wp2_with fail
  refine cS.out.mono ?_
  rintro e w6 ⟨g6, c6, rfl, hO6, hb6⟩
  have H6 := Lib.hid (H5.out.next hb6)
  have R36 : Hid (w6.cell? ⟨g3, 0, none⟩ = some (.int .u8 118) ∧ w6.cell? ⟨g3, 1, none⟩ = some (.int .u8 184) ∧ g3 < w6.heap.size) := Lib.hid (by
    have hl : g3 < ((w3.alloc (.cells #[.int .u8 116] 5)).freeze ⟨w3.heap.size, 1, none⟩ 1).heap.size := Nat.lt_of_lt_of_le hg3 hbf2.out.size
    exact ⟨((hb6.cell (p := ⟨g3, 0, none⟩) hl).trans (hbf2.out.cell (p := ⟨g3, 0, none⟩) hg3)).trans R3.out, ((hb6.cell (p := ⟨g3, 1, none⟩) hl).trans (hbf2.out.cell (p := ⟨g3, 1, none⟩) hg3)).trans R4.out, Nat.lt_of_lt_of_le hl hb6.size⟩)
  obtain ⟨S, hS⟩ : ∃ l, Obol.strm K N [116] ++ Obol.bothL K N [] (Obol.strm K N [116]) = l := ⟨_, rfl⟩
  have hSl : S.length = 17 := by rw [← hS, Obol.sealed_len]; rfl
  have hSb : ∀ i, S.getD i 0 < 256 := fun i => by rw [← hS]; exact Obol.sealed_lt K N [] hT8.lt i
  have hSt : S.take 1 = Obol.strm K N [116] := by rw [← hS]; exact Obol.back_take K N [] [116] rfl
  have hSd : S.drop 1 = Obol.bothL K N [] (Obol.strm K N [116]) := by rw [← hS]; exact Obol.back_drop K N [] [116] rfl
  rw [hS] at hO6
  have cO := qOpen bk 0 32 bn 0 12 K N hK.out hN.out (by omega) (by omega) (.slice none 0 0) [] (some ⟨g6, 0, none⟩) 1 c6 S ⟨hSl, hSb⟩ (by omega) w6 (blk.out _ H6.out).1 (blk.out _ H6.out).2.1 (blk.out _ H6.out).2.2.1 (blk.out _ H6.out).2.2.2 (seg_nil _ _) (own_sli hO6)
  rw [hSt, hSd, Obol.strm_back] at cO
  replace cO := Lib.hid cO
  clear hO6 hb6 cS hS hSl hSb hSt hSd hcs hg3 R3 R4 H3 H5 hbf2 hzs
  go_wp2_with fail
  refine cO.out.mono ?_
  rintro e w7 ⟨he, hb7⟩
  rcases he with ⟨-, a7, c7, rfl, hO7⟩ | ⟨hne, -⟩
  · have H7 := Lib.hid (H6.out.next hb7)
    have R37 := hb7.cell (p := ⟨g3, 0, none⟩) R36.out.2.2 |>.trans R36.out.1
    have R47 := hb7.cell (p := ⟨g3, 1, none⟩) R36.out.2.2 |>.trans R36.out.2.1
    have hcv := own_conv hO7
    rw [str_t] at hcv
    have cN := Lib.hid (qOpenS (some ⟨bk, 0, none⟩) (some ⟨bn, 0, none⟩) none none 32 12 0 0 0 0 (by omega) w7)
    have hE := fun W => eqErrC W 6 6
    clear hO7 hb7 cO R36 H6
    go_wp2_with fail
    refine cN.out.mono ?_
    rintro e w8 ⟨rfl, rfl⟩
    go_wp2_with fail
    go_ret
    exact ⟨rfl, H7.out.2⟩
  · exact absurd rfl hne

end Go.Proofs.Ytallfmiikjmgaaa
