import Derived.Test.YtkfimfjjmdjbdaaGreatDoorUA
import Derived.Test.YtkfimfjjmdjbdaaGreatDoorUz
import Derived.Test.YtkfimfjjmdjbdaaGreatDoorUf
import Derived.Test.YtkfimfjjmdjbdaaGreatDoorUs
import Derived.Test.YtkfimfjjmdjbdaaGreatDoorUx
import Derived.Test.YtkfimfjjmdjbdaaGreatDoorUk
set_option linter.unusedVariables false
set_option linter.unusedSimpArgs false
set_option linter.unusedSectionVars false
/- Walks: the reference of layer 5: the digest. -/
namespace Obol
theorem take_pad {P : List Nat} {m : Nat} (h1 : P.length ≤ m) (h2 : m < 8) : (pad8 P).take (m + 1) = (pad8 P).take m ++ [0] := by
 rw [List.take_add_one, List.getElem?_eq_getElem (by rw [pad8_len]; exact h2)]
 have h := pad8_get P m h2
 rw [List.getD_eq_getElem?_getD, List.getElem?_eq_getElem (by rw [pad8_len]; exact h2), List.getD_eq_getElem?_getD, List.getElem?_eq_none h1] at h
 simp only [Option.getD_some, Option.getD_none] at h
 rw [h]
 rfl
theorem take_pad0 {P : List Nat} (h : P.length ≤ 8) : (pad8 P).take P.length = P := by
 refine List.ext_getElem (by rw [List.length_take, pad8_len]; omega) fun i h1 h2 => ?_
 rw [List.getElem_take]
 have h3 := pad8_get P i (by omega)
 rw [List.getD_eq_getElem?_getD, List.getElem?_eq_getElem (by rw [pad8_len]; omega), List.getD_eq_getElem?_getD, List.getElem?_eq_getElem h2] at h3
 exact h3
/-- Bytes, and bytes 0 up to whole blocks. -/
def allL (L : List Nat) : List Nat := L ++ List.replicate (64 * nBlocks L.length - L.length) 0
theorem nBlocks_ge (n : Nat) : n ≤ 64 * nBlocks n ∧ 64 * nBlocks n < n + 64 + (if n = 0 then 1 else 0) ∧ 0 < nBlocks n := by
 unfold nBlocks
 split <;> omega
theorem allL_len (L : List Nat) : (allL L).length = 64 * nBlocks L.length := by
 have := (nBlocks_ge L.length).1
 unfold allL
 rw [List.length_append, List.length_replicate]
 omega
theorem allL_get (L : List Nat) (i : Nat) : (allL L).getD i 0 = L.getD i 0 := by
 unfold allL
 rw [List.getD_eq_getElem?_getD, List.getD_eq_getElem?_getD, List.getElem?_append]
 split
 ·rfl
 ·rename_i h
  rw [List.getElem?_eq_none (show L.length ≤ i by omega), List.getElem?_replicate]
  split <;> rfl
theorem allL_take {L : List Nat} {m : Nat} (h1 : L.length ≤ m) (h2 : m < 64 * nBlocks L.length) : (allL L).take (m + 1) = (allL L).take m ++ [0] := by
 rw [List.take_add_one, List.getElem?_eq_getElem (by rw [allL_len]; exact h2)]
 have h := allL_get L m
 rw [List.getD_eq_getElem?_getD, List.getElem?_eq_getElem (by rw [allL_len]; exact h2), List.getD_eq_getElem?_getD, List.getElem?_eq_none h1] at h
 simp only [Option.getD_some, Option.getD_none] at h
 rw [h]
 rfl
theorem allL_take0 (L : List Nat) : (allL L).take L.length = L := by
 unfold allL
 rw [List.take_left]
theorem nBlocks_eq {n m : Nat} (_ : n ≤ m) (h2 : m ≤ 64 * nBlocks n) (h3 : m % 64 = 0) (h4 : m ≠ 0) : m = 64 * nBlocks n := by
 by_cases h : n = 0
 ·subst h
  have e : nBlocks 0 = 1 := rfl
  omega
 ·have e : nBlocks n = (n + 63) / 64 := by unfold nBlocks; rw [if_neg h]
  omega
theorem nBlocks_lt {n m : Nat} (h1 : n ≤ m) (h2 : m ≤ 64 * nBlocks n) (h : m % 64 ≠ 0 ∨ m = 0) : m < 64 * nBlocks n := by
 rcases Nat.lt_or_ge m (64 * nBlocks n) with h3 | h3
 ·exact h3
 ·have := (nBlocks_ge n).2.2
  omega
theorem nBlocks_last {n j : Nat} (h : j < nBlocks n) : (64 * j + 64 = 64 * nBlocks n) = (n ≤ 64 * (j + 1)) := by
 unfold nBlocks at *
 apply propext
 split at h <;> split <;> omega
end Obol
namespace Go.Proofs.YtkfimfjjmdjbdaaGreatDoor
open Go.RowKit

theorem bl_block {w : World} {g : Nat} {L : List Nat} (h : BL w g 0 (Obol.allL L)) {j : Nat} (hj : j < Obol.nBlocks L.length) : BL w g (64 * j) (Obol.blockL L j) := fun i hi => by
 rw [Obol.blockL_len] at hi
 have := h (64 * j + i) (by rw [Obol.allL_len]; omega)
 rw [Nat.zero_add, Obol.allL_get] at this
 rw [this, Obol.blockL_get _ _ _ hi]
theorem slice_mid {P : Program} (t e : TypeId) (ht : P.underlying t = some (.slice e)) (he : (P.info? e).map (fun i => (i.zero, i.size, i.bytes)) = some (some (.int .u8 0), 1, 1)) (b o len c l h : Nat) (h1 : l < h) (h2 : h ≤ c) (W : World) :
  (Instr.slice t (.slice (some ⟨b, o, none⟩) len c) (some (.int .i64 (l : Int))) (some (.int .i64 (h : Int))) none).run P W = .ok (.slice (some ⟨b, o + l, none⟩) (h - l) (c - l)) W := by
 have e2 : P.elem t = e := by simp [Program.elem, ht]
 obtain ⟨i, hi, _, hs, _⟩ := info_parts he
 rw [run_slice_lh W t _ _ _ (by rw [e2]; exact ht) .i64 .i64 l h (by omega) (by omega) (by omega), e2]
 simp [Go.sizeOf, typeInfo, hi, hs, Result.andThen, sliced]
 have : c ≠ l := by omega
 simp [this, addP]

theorem WL.other {w : World} {b o c i : Nat} {L : List Nat} {u : Value} (h : WL w b o L) (hne : b ≠ c) : WL (w.setCell ⟨c, i, none⟩ u) b o L := fun j hj => (World.cell?_setCell_other w ⟨c, i, none⟩ ⟨b, o + j, none⟩ u (fun e => hne (by cases e; rfl))).trans (h j hj)
theorem news0 (w : World) : ∀ j u, (U8 [0])[j]? = some u → (w.alloc (.cells #[.int .u8 0] 5)).cell? ((⟨w.heap.size, 0, none⟩ : Addr).add j) = some u := fun j u hu => by
 have hj : j < 1 := by have := (List.getElem?_eq_some_iff.1 hu).1; simpa using this
 obtain rfl : j = 0 := by omega
 rw [addP]
 have := (show Row (w.alloc (.cells #[.int .u8 0] 5)) w.heap.size #[.int .u8 0] 5 from Row.new _ _ _).cell 0 rfl
 rw [this]
 simpa using hu
theorem bl0 (w : World) : BL (w.alloc (.cells #[.int .u8 0] 5)) w.heap.size 0 [0] := (show Row _ _ (u8s [0]) _ from Row.new w _ 5).bl

theorem und8 : Tryz.prog.underlying 96 = some (.array 8 88) := by kernel_rfl
theorem siz8 : (Tryz.prog.info? 96).map (·.size) = some 8 := by kernel_rfl
theorem BL.store {w : World} {b o' c o : Nat} {L : List Nat} {vs : List Value} (h : BL w b o' L) (hne : b ≠ c) : BL (w.setCells c o vs) b o' L := fun k hk => (cell_setCells hne _ _ _).trans (h k hk)
theorem newsW (w : World) (x : Int) (x0 : 0 ≤ x) : ∀ j, j < [x.toNat].length → (w.alloc (.cells #[.int .u32 x] 88)).cell? ((⟨w.heap.size, 0, none⟩ : Addr).add j) = some (.int .u32 (([x.toNat].getD j 0 : Nat) : Int)) := fun j hj => by
 obtain rfl : j = 0 := by simp at hj; omega
 rw [addP]
 have := (show Row (w.alloc (.cells #[.int .u32 x] 88)) w.heap.size #[.int .u32 x] 88 from Row.new _ _ _).cell 0 rfl
 rw [this]
 simp
 omega
/-- Words appended to a slice of the call's own. -/
theorem append_ownW (W : World) (base : Nat) (v : Value) (L M : List Nat) (hown : OwnW W base v L) (ad : Addr) (m c : Nat) (hm : M.length = m) (hnews : ∀ j, j < M.length → W.cell? (ad.add j) = some (.int .u32 ((M.getD j 0 : Nat) : Int)))
  (hlen : L.length + M.length ≤ 100000000) (hbase : base ≤ W.heap.size) :
  ∃ v' W', (∀ ty, (Builtin.append_ #[94, 94] ty #[v, .slice (some ad) m c]).run Tryz.prog W = .ok v' W') ∧ OwnW W' base v' (L ++ M) ∧ Below base W W' := by
 subst hm
 obtain ⟨ti, hti, htz, hts, htb⟩ := info_parts4 info32w
 obtain ⟨v', W', hr, ho, hg, hn⟩ := run_append_own W base 94 0 88 ti (.int .u32 0) 1 4 Tryz.underlying94 hti htz hts htb rfl (by decide) v L.length (U32 L) hown ad M.length c (U32 M) (by simp)
  (fun j u hu => by
   have hj : j < M.length := by have := (List.getElem?_eq_some_iff.1 hu).1; simpa using this
   rw [hnews j hj]
   rw [List.getElem?_map, List.getElem?_eq_getElem hj] at hu
   rw [List.getD_eq_getElem?_getD, List.getElem?_eq_getElem hj]
   simpa using hu) (fun u hu => by obtain ⟨x, _, rfl⟩ := List.mem_map.1 hu; rfl) (by unfold maxLen; omega) (by omega) hbase
 exact ⟨v', W', fun ty => hr, OwnW.app ho rfl, (Below.refl _ _).grown hg (by omega) (fun q hq => (World.ownsRow.lt hown q hq).1)⟩

set_option maxRecDepth 8000 in
set_option maxHeartbeats 4000000 in
theorem r5Sum (s : ByteArray) (hs : s.size ≤ 8) (ao : Option Addr) (len cap : Nat) (L : List Nat) (H : B8 len L) (hl : len ≤ 100000) (w : World) (hn : ao = none → len = 0 ∧ cap = 0) (hc : 0 < len → ∃ b o, ao = some ⟨b, o, none⟩ ∧ BL w b o L) :
  Calls Tryz.prog 29 #[.string s, .slice ao len cap] w fun e w' => ∃ g cap2, e = .returned (.slice (some ⟨g, 0, none⟩) 32 cap2) ∧ OwnB w' w.heap.size (.slice (some ⟨g, 0, none⟩) 32 cap2) (Obol.sumL (strL s) L) ∧ Below w.heap.size w w' := by
 have hlen := Lib.hid H.len
 obtain ⟨v0, w1, hcv, hM0, hb1⟩ := conv_str w s (by omega)
 have hPl := Lib.hid (strL_len s)
 have hPb : Hid (∀ i, (strL s).getD i 0 < 256) := Lib.hid (strL_lt s)
 generalize hP : strL s = P at *
 replace hP := Lib.hid hP
 have h0 := Obol.take_pad0 (P := P) (by rw [hPl.out]; exact hs)
 rw [hPl.out] at h0
 rw [← h0] at hM0
 obtain ⟨g0, cap0, rfl, -, -, -, -, -⟩ := hM0.shape
 have hpl : ((Obol.pad8 P).take s.size).length = s.size := by rw [h0, hPl.out]
 rw [hpl] at hM0 hcv
 replace hM0 := Lib.hid hM0
 replace hb1 := Lib.hid hb1
 clear h0 hpl
 have Hc := Lib.hid hc
 have Hn := Lib.hid hn
 have HL := Lib.hid H
 have hl' : (len : Int) ≤ 100000 := by omega
 clear hc hn H
 go_enter Tryz.func29, Tryz.ntmps29
 go_wp2_with fail
 clear hcv
 go_loopw [5] (fun q1 wr => ∃ (m g c : Nat), q1 = .slice (some ⟨g, 0, none⟩) m c ∧ s.size ≤ m ∧ m ≤ 8 ∧ Hid (OwnM wr w.heap.size (.slice (some ⟨g, 0, none⟩) m c) ((Obol.pad8 P).take m)) ∧ Hid (Below w.heap.size w wr)) (fun q1 _ => 8 - slLen q1)
 case atStart => exact ⟨s.size, g0, cap0, rfl, Nat.le_refl _, hs, hM0, hb1⟩
 case round =>
  clear hM0 hb1
  obtain ⟨m, g, c, rfl, m0, m1, hM, hW⟩ := hrel
  by_cases hm : m < 8
  ·have hm' : (m : Int) < 8 := by omega
   have hsz := hW.out.size
   obtain ⟨v', w', hr, hM', hb'⟩ := append_mark (wr.alloc (.cells #[.int .u8 0] 5)) w.heap.size _ _ [0] (hM.out.keep (bAlloc (Below.refl _ wr) _) (Nat.le_refl _)) ⟨wr.heap.size, 0, none⟩ 1 (news0 wr) (by rw [List.length_take, Obol.pad8_len]; simp; omega) (by simp; omega)
   rw [← Obol.take_pad (by rw [hPl.out]; exact m0) hm] at hM'
   have hpl : ((Obol.pad8 P).take (m + 1)).length = m + 1 := by rw [List.length_take, Obol.pad8_len]; omega
   obtain ⟨g', c', rfl, -, -, -, -, -⟩ := hM'.shape
   rw [hpl] at hM' hr
   have HM := Lib.hid hM'
   have HW := Lib.hid ((hW.out.alloc hW.out.size (.cells #[.int .u8 0] 5)).trans hb')
   clear hM' hb' hpl hM hW
   go_wp2_with (at_builtin; refine wpList_appended rfl _ _ _ _ rfl _ _ _ rfl rfl hr ?_)
   go_roundw
   case rel => exact ⟨m + 1, g', c', rfl, by omega, by omega, HM, HW⟩
   case measure => simp [slLen]; omega
  ·obtain rfl : m = 8 := by omega
   have hp8 : (Obol.pad8 P).take 8 = Obol.pad8 P := List.take_of_length_le (by rw [Obol.pad8_len]; exact Nat.le_refl _)
   rw [hp8] at hM
   obtain ⟨-, hg1, hg2, -, hbl⟩ := hM.out.at
   have HP8 : Hid (B8 8 (Obol.pad8 P)) := Lib.hid ⟨Obol.pad8_len P, fun i => by
    by_cases hi : i < 8
    ·rw [Obol.pad8_get _ _ hi]; exact hPb.out i
    ·rw [List.getD_eq_getElem?_getD, List.getElem?_eq_none (by rw [Obol.pad8_len]; omega)]
     decide⟩
   have cW := r5Words g 0 8 c (Obol.pad8 P) 2 (by decide) (by decide) HP8.out (by decide) wr hg2 hbl
   have hW2 : Obol.wordsOf (Obol.pad8 P) 2 = [Obol.wordAt P 0, Obol.wordAt P 4] := by
    show [Obol.wordAt (Obol.pad8 P) 0, Obol.wordAt (Obol.pad8 P) 4] = _
    rw [Obol.word_pad _ _ (by decide), Obol.word_pad _ _ (by decide)]
   rw [hW2] at cW
   replace cW := Lib.hid cW
   clear hbl hW2 hM hp8 hg1 hg2 HP8
   go_wp2_with fail
   refine cW.out.mono ?_
   rintro e w2 ⟨v, rfl, hO2, hb2⟩
   obtain ⟨gw, cw, rfl, hgw1, hgw2, -, hwl⟩ := hO2.size (by simp)
   have B2 := Lib.hid (bThen hW.out hb2 hW.out.size)
   have hgw0 : w.heap.size ≤ gw := Nat.le_trans hW.out.size hgw1
   clear hgw1
   replace hwl := Lib.hid hwl
   clear hb2 hO2 hW cW
   go_wp2_with fail
   refine (r5FirstL _).mono ?_
   rintro e w3 ⟨rfl, hb3⟩
   have B3 := Lib.hid (bThen B2.out hb3 B2.out.size)
   replace hwl := Lib.hid (hwl.out.below hb3 hgw2)
   replace hgw2 := Nat.lt_of_lt_of_le hgw2 hb3.size
   have hx0 : bits .xor .u32 1779033703 16842784 = 1795745351 := by decide +kernel
   clear hb3 B2
   go_wp2_with fail
   have R3 := Lib.hid (Row.new w3 (u32s (Obol.firstL.set 0 1795745351)) 96)
   change Code.wp _ _ _ _ (w3.alloc (.cells (u32s (Obol.firstL.set 0 1795745351)) 96))
   replace B3 := Lib.hid (bAlloc B3.out (.cells (u32s (Obol.firstL.set 0 1795745351)) 96))
   replace hwl := Lib.hid (hwl.out.below (bAlloc (Below.refl _ w3) (.cells (u32s (Obol.firstL.set 0 1795745351)) 96)) hgw2)
   generalize w3.alloc (.cells (u32s (Obol.firstL.set 0 1795745351)) 96) = w4 at R3 B3 hwl ⊢
   have hbhw : w.heap.size ≤ w3.heap.size := Nat.le_trans (Nat.le_of_lt (Nat.lt_of_le_of_lt hgw0 hgw2)) (Nat.le_refl _)
   generalize w3.heap.size = bh at R3 hgw2 hbhw ⊢
   obtain ⟨x6, hx6⟩ : ∃ z : Int, ((Obol.wordAt P 0 : Nat) : Int) = z := ⟨_, rfl⟩
   obtain ⟨x7, hx7⟩ : ∃ z : Int, ((Obol.wordAt P 4 : Nat) : Int) = z := ⟨_, rfl⟩
   have l6 := Obol.wordAt_lt P hPb.out 0
   have l7 := Obol.wordAt_lt P hPb.out 4
   have y6 := xor_eq (p := 528734635) (P := 528734635) (q := x6) rfl hx6 (by decide) l6
   have y7 := xor_eq (p := 1541459225) (P := 1541459225) (q := x7) rfl hx7 (by decide) l7
   obtain ⟨z6, hz6⟩ : ∃ z : Int, bits .xor .u32 528734635 x6 = z := ⟨_, rfl⟩
   obtain ⟨z7, hz7⟩ : ∃ z : Int, bits .xor .u32 1541459225 x7 = z := ⟨_, rfl⟩
   rw [hz6] at y6
   rw [hz7] at y7
   have Y6 := Lib.hid y6
   have Y7 := Lib.hid y7
   have cw0 : w4.cell? ⟨gw, 0, none⟩ = some (.int .u32 x6) := by rw [← hx6]; exact hwl.out 0 (by simp)
   have cw1 : Hid (∀ wq, WL wq gw 0 [Obol.wordAt P 0, Obol.wordAt P 4] → wq.cell? ⟨gw, 1, none⟩ = some (.int .u32 x7)) := Lib.hid (by rw [← hx7]; intro wq h; exact h 1 (by simp))
   have x60 : 0 ≤ x6 := by omega
   have x70 : 0 ≤ x7 := by omega
   clear y6 y7 hx6 hx7 l6 l7 hx0
   have c6 : w4.cell? ⟨bh, 6, none⟩ = some (.int .u32 528734635) := R3.out.cell 6 rfl
   have f6 := R3.out.free 6
   go_cut [] (fun wc => Hid (Row wc bh (u32s ((Obol.firstL.set 0 1795745351).set 6 (528734635 ^^^ Obol.wordAt P 0))) 96) ∧ Hid (WL wc gw 0 [Obol.wordAt P 0, Obol.wordAt P 4]) ∧ Hid (Below w.heap.size w wc))
   case first =>
    go_region
    all_goals (go_wp2_with fail; go_meet)
    all_goals exact ⟨Lib.hid (rowSet R3.out 6 _ Y6.out), Lib.hid (hwl.out.other (by omega)), Lib.hid (bDrew (bSet B3.out (by omega)))⟩
   case' rest =>
    rename World => w5
    obtain ⟨R5, hwl5, B5⟩ := hcut
    clear R3 hwl B3 c6 f6 cw0 Y6 hz6
    have cw0 := cw1.out _ hwl5.out
    have c7 : w5.cell? ⟨bh, 7, none⟩ = some (.int .u32 1541459225) := R5.out.cell 7 rfl
    have f7 := R5.out.free 7
   go_wp2_with fail
   go_cut [] (fun wc => Hid (Row wc bh (u32s (((Obol.firstL.set 0 1795745351).set 6 (528734635 ^^^ Obol.wordAt P 0)).set 7 (1541459225 ^^^ Obol.wordAt P 4))) 96) ∧ Hid (Below w.heap.size w wc))
   case first =>
    go_region
    all_goals (go_wp2_with fail; go_meet)
    all_goals exact ⟨Lib.hid (rowSet R5.out 7 _ Y7.out), Lib.hid (bDrew (bSet B5.out (by omega)))⟩
   case' rest =>
    rename World => w6
    obtain ⟨R6, B6⟩ := hcut
    have R6' : Hid (Row w6 bh (u32s (Obol.stH P L 0)) 96) := R6
    clear R5 hwl5 B5 c7 f7 cw0 Y7 hz7 cw1 R6
    have hz6 := R6'.out.lt
    obtain ⟨ga, ca, w7, hap, hO7, hb7⟩ := append_copy w6 ao len cap L HL.out.len (by omega) Hn.out (fun h => by
     obtain ⟨b, o, h1, h2⟩ := Hc.out h
     exact ⟨b, o, h1, h2.below B6.out (h2.lt (by rw [hlen.out]; exact h))⟩)
    have B7 := Lib.hid (bThen B6.out hb7 B6.out.size)
    have R7 := Lib.hid (R6'.out.below hb7 hz6)
    have O7 := Lib.hid hO7
    clear hO7 hb7 R6'
    have hbsw := B6.out.size
    clear B6
    go_wp2_with (at_builtin; refine wpList_appended rfl _ _ _ _ rfl _ _ _ rfl rfl hap ?_)
    clear hap
    generalize w6.heap.size = bs at O7 hz6 hbsw ⊢
    obtain ⟨N, hN⟩ : ∃ N, 64 * Obol.nBlocks L.length = N := ⟨_, rfl⟩
    have hN1 := Obol.nBlocks_ge L.length
    have hA0 := Obol.allL_take0 L
    rw [hN, hlen.out] at hN1
    have hN2 : len ≤ N := hN1.1
    have hN3 : N ≤ 100065 := by have h := hN1.2.1; split at h <;> omega
    rw [hlen.out] at hA0
    rw [← hA0] at O7
    replace hA0 := Lib.hid hA0
    replace hN := Lib.hid hN
    clear hN1
    go_loopw [8] (fun q1 wr => ∃ (m g c : Nat), q1 = .slice (some ⟨g, 0, none⟩) m c ∧ len ≤ m ∧ m ≤ N ∧ Hid (OwnB wr bs (.slice (some ⟨g, 0, none⟩) m c) ((Obol.allL L).take m)) ∧ Hid (Row wr bh (u32s (Obol.stH P L 0)) 96) ∧ Hid (Below w.heap.size w wr) ∧ bs ≤ wr.heap.size) (fun q1 _ => N - slLen q1)
    case atStart => exact ⟨len, ga, ca, rfl, Nat.le_refl _, hN2, O7, R7, B7, Nat.le_of_lt (Nat.lt_of_le_of_lt (own_ge O7.out) (own_lt O7.out))⟩
    case round =>
     clear O7 R7 B7
     obtain ⟨m, g2, c2, rfl, m0, m1, hO, hR, hB, hbs⟩ := hrel
     by_cases hm : m < N
     ·have hlA : ((Obol.allL L).take m).length = m := by rw [List.length_take, Obol.allL_len, hN.out]; omega
      have hlA' : ((Obol.allL L).take (m + 1)).length = m + 1 := by rw [List.length_take, Obol.allL_len, hN.out]; omega
      obtain ⟨v', w', hr, hO', hb', hg', hn'⟩ := append_ownB (wr.alloc (.cells #[.int .u8 0] 5)) bs _ _ [0] (hO.out.below (bAlloc (Below.refl _ wr) _)) ⟨wr.heap.size, 0, none⟩ 1 1 rfl (fun j hj => by rw [addB]; exact bl0 wr j hj) (by rw [hlA]; simp; omega) (by simp; omega)
      rw [← Obol.allL_take (by rw [hlen.out]; exact m0) (by rw [hN.out]; exact hm)] at hO'
      obtain ⟨g', c', rfl⟩ := own_shape hO' (fun h => by have := (hn'.1 h).2; omega)
      rw [hlA'] at hr hO'
      have HO := Lib.hid hO'
      have hbb : Below bs wr w' := ((Below.refl bs wr).alloc hbs _).trans hb'
      have HR := Lib.hid (hR.out.below hbb hz6)
      have HB := Lib.hid (hB.out.trans (hbb.mono hbsw))
      have HS := Nat.le_of_lt (Nat.lt_of_le_of_lt (own_ge hO') (own_lt hO'))
      clear hO' hb' hg' hn' hlA hlA' hO hR hB hbb
      have hm' : (m : Int) ≤ 9223372036854775807 := by omega
      have hmm := Obol.nBlocks_lt (n := L.length) (m := m) (by rw [hlen.out]; exact m0) (by rw [hN.out]; exact m1)
      by_cases h64 : m % 64 = 0
      ·have hz : m = 0 := by
        rcases Nat.eq_zero_or_pos m with h | h
        ·exact h
        ·have := Obol.nBlocks_eq (n := L.length) (m := m) (by rw [hlen.out]; exact m0) (by rw [hN.out]; exact m1) h64 (by omega)
         rw [hN.out] at this
         omega
       have e1 : ((m : Int) % 64 != 0) = false := by rw [bne_eq_false_iff_eq]; omega
       have e2 : ((m : Int) == 0) = true := by rw [beq_iff_eq]; omega
       clear hmm h64
       replace hz := Lib.hid hz
       go_wp2_with (at_builtin; refine wpList_appended rfl _ _ _ _ rfl _ _ _ rfl rfl hr ?_)
       go_roundw
       case rel => exact ⟨m + 1, g', c', rfl, by omega, by omega, HO, HR, HB, HS⟩
       case measure => simp [slLen]; omega
      ·have e1 : ((m : Int) % 64 != 0) = true := by rw [bne_iff_ne]; omega
       clear hmm h64
       go_wp2_with (at_builtin; refine wpList_appended rfl _ _ _ _ rfl _ _ _ rfl rfl hr ?_)
       go_roundw
       case rel => exact ⟨m + 1, g', c', rfl, by omega, by omega, HO, HR, HB, HS⟩
       case measure => simp [slLen]; omega
     ·obtain rfl : m = N := by omega
      have e0 := hN.out
      have e1 : ((m : Int) % 64 != 0) = false := by rw [bne_eq_false_iff_eq]; omega
      have e2 : ((m : Int) == 0) = false := by
       rw [beq_eq_false_iff_ne]
       have := (Obol.nBlocks_ge L.length).2.2
       omega
      clear e0
      have hAN : (Obol.allL L).take m = Obol.allL L := List.take_of_length_le (by rw [Obol.allL_len, hN.out]; exact Nat.le_refl _)
      rw [hAN] at hO
      have hm' : (m : Int) ≤ 9223372036854775807 := by omega
      clear hAN
      go_wp2_with fail
      -- LOOP3
      have hgb := own_ge hO.out
      have hgl0 := own_lt hO.out
      have hLA0 : Hid (BL wr g2 0 (Obol.allL L)) := Lib.hid (own_blz hO.out (by rw [Obol.allL_len, hN.out]))
      have hcap2 := (own_cap hO.out).1
      rw [Obol.allL_len, hN.out] at hcap2
      have hNB := (Obol.nBlocks_ge L.length).2.2
      have hN' := hN.out
      generalize hNb : Obol.nBlocks L.length = nB at hNB hN'
      replace hNb := Lib.hid hNb
      clear hO e1 e2
      go_loopw [9] (fun q1 wr => ∃ j : Nat, q1 = .int .i64 ((64 * j : Nat) : Int) ∧ j ≤ nB ∧ Hid (Row wr bh (u32s (Obol.stH P L j)) 96) ∧ Hid (BL wr g2 0 (Obol.allL L)) ∧ g2 < wr.heap.size ∧ Hid (Below w.heap.size w wr)) (fun q1 _ => (m - intOf q1).toNat)
      case atStart => exact ⟨0, rfl, Nat.zero_le _, hR, hLA0, hgl0, hB⟩
      case round =>
       clear hR hLA0 hgl0 hB
       obtain ⟨j, rfl, hj0, hR, hLA, hgl, hB⟩ := hrel
       obtain ⟨i, hi⟩ : ∃ i : Int, ((64 * j : Nat) : Int) = i := ⟨_, rfl⟩
       rw [hi]
       by_cases hj : j < nB
       ·have i0 : 0 ≤ i := by omega
        have i1 : i < (m : Int) := by omega
        have i2 : (0 : Int) ≤ i + 64 := by omega
        have i3 : i + 64 ≤ (c2 : Int) := by omega
        have w64 := wrap_small (x := i + 64) (by omega) (by omega)
        have hsl := fun W => slice_mid (P := Tryz.prog) 26 5 Tryz.underlying26 info8 g2 0 m c2 (64 * j) (64 * j + 64) (by omega) (by omega) W
        rw [hi, show ((64 * j + 64 : Nat) : Int) = i + 64 by omega, Nat.zero_add, show 64 * j + 64 - 64 * j = 64 by omega] at hsl
        have hsl0 : True := trivial
        have hBLj : Hid (BL wr g2 (64 * j) (Obol.blockL L j)) := Lib.hid (bl_block hLA.out (by rw [hNb.out]; exact hj))
        have hla := Obol.nBlocks_last (n := L.length) (j := j) (by rw [hNb.out]; exact hj)
        rw [hNb.out, hlen.out] at hla
        have W8 := Lib.hid (stH_w hPb.out L j)
        have W9 := Lib.hid (stH_w hPb.out L (j + 1))
        have hn : Hid ((u32s (Obol.stH P L j)).size = 8) := Lib.hid (u32s_n W8.out)
        have hn2 : Hid ((u32s (Obol.stH P L (j + 1))).size = 8) := Lib.hid (u32s_n W9.out)
        generalize hH8 : Obol.stH P L j = H8 at hR W8 hn ⊢
        generalize hH9 : Obol.stH P L (j + 1) = H9 at W9 hn2 ⊢
        replace hH8 := Lib.hid hH8
        replace hH9 := Lib.hid hH9
        by_cases hl64 : len ≤ 64 * (j + 1)
        ·have e3 : (i + 64 == (m : Int)) = true := by
          rw [beq_iff_eq]
          have h : 64 * j + 64 = 64 * nB := hla.mpr hl64
          omega
         clear hla
         have cP := Lib.hid (fun W hlt hBL => r5Press H8 (Obol.blockL L j) W8.out ⟨Obol.blockL_len L j, blockL_lt HL.out j⟩ (len : Int) (by omega) (by omega) true g2 (64 * j) (c2 - 64 * j) W hlt hBL)
         have eP : Hid (Obol.pressL H8 (Obol.msgL (Obol.blockL L j) 0) ((len : Int)).toNat true = H9) := Lib.hid (by
          rw [← hH9.out, ← hH8.out, Obol.msg_block, show ((len : Int) : Int).toNat = min (64 * (j + 1)) L.length by rw [hlen.out]; omega, show true = decide (L.length ≤ 64 * (j + 1)) by rw [hlen.out]; simp; omega]
          rfl)
         have wu : IntKind.u64.wrap (len : Int) = (len : Int) := by rw [IntKind.wrap_u64]; omega
         go_wp2_with fail
         refine wp_region_noPanic ?_
         refine wp_region_held_drew (S := fun _ => True) (by kernel_rfl) ?_ (fun hHeld => ?_)
         ·exact trivial
         refine tk 1 hHeld ?_; refine tk 2 hHeld ?_; refine tk 3 hHeld ?_; refine tk 4 hHeld ?_; refine tk 5 hHeld ?_; refine tk 6 hHeld ?_; refine tk 7 hHeld ?_; refine tk 8 hHeld ?_
         refine stepH 0 (by kernel_rfl) rfl (by rfl) (fun K hK => ?_)
         refine wp_load_mid _ _ rfl bh 0 rfl (u32s H8).toList _ hR.out.drew.range und8 rfl (by rw [siz8]; simp [hn.out]) ?_
         rw [Array.toArray_toList]
         refine hK.out _ _ ?_ (fun hHeld => ?_)
         ·exact trivial
         clear hK K
         try simp only [Act.put, List.setIfInBounds_toArray, List.set_cons_zero, List.set_cons_succ]
         refine stepH 9 (by kernel_rfl) rfl (by rfl) (fun K hK => ?_)
         go_simp
         refine (cP.out wr.drew hgl (fun i hi => hBLj.out i hi)).mono ?_
         rintro e wn ⟨rfl, hb⟩
         rw [eP.out]
         have hbn : Below wr.heap.size wr wn := bThen (bDrew (Below.refl _ wr)) hb (Nat.le_refl _)
         refine hK.out _ _ ?_ (fun hHeld => ?_)
         ·exact trivial
         clear hK K
         try simp only [Act.put, List.setIfInBounds_toArray, List.set_cons_zero, List.set_cons_succ]
         have RN := Lib.hid (hR.out.below hbn hR.out.lt)
         have hth : wn.there bh 0 (u32s H9).size := by rw [hn2.out, ← hn.out]; exact RN.out.there
         refine stepH 10 (by kernel_rfl) rfl (by rfl) (fun K hK => ?_)
         refine wp_store_mid _ _ _ rfl bh 0 (u32s H9) rfl rfl hth (by rw [siz8, hn2.out]) (u32s_one H9) ?_
         refine hK.out _ _ ?_ (fun hHeld => ?_)
         ·exact trivial
         clear hK K
         try simp only [Act.put, List.setIfInBounds_toArray, List.set_cons_zero, List.set_cons_succ]
         refine wpAnyH_done (by kernel_rfl) (NoPanic.normal ?_) _
         have RZ := Lib.hid (RN.out.store (u32s H9) (by rw [hn2.out, hn.out]))
         have BZ := Lib.hid (bSetMany (b := bh) (by omega) (u32s H9).toList 0 _ (bThen hB.out hbn hB.out.size))
         have LZ := Lib.hid (BL.store (vs := (u32s H9).toList) (o := 0) (hLA.out.below hbn hgl) (show g2 ≠ bh by omega))
         have GZ : g2 < (wn.setCells bh 0 (u32s H9).toList).heap.size := Nat.lt_of_lt_of_le hgl (bSetMany (b := bh) (B := 0) (Nat.zero_le _) (u32s H9).toList 0 _ (hbn.mono (Nat.zero_le _))).size
         generalize wn.setCells bh 0 (u32s H9).toList = wf at RZ BZ LZ GZ ⊢
         clear cP eP hHeld hbn hth RN hb hsl hsl0
         go_wp2_with fail
         go_roundw
         case rel => exact ⟨j + 1, by simp; omega, by omega, by rw [hH9.out]; exact RZ, LZ, GZ, BZ⟩
         case measure => simp [intOf]; omega
        ·have e3 : (i + 64 == (m : Int)) = false := by
          rw [beq_eq_false_iff_ne]
          have h : ¬ (64 * j + 64 = 64 * nB) := fun h => hl64 (hla.mp h)
          omega
         clear hla
         have cP := Lib.hid (fun W hlt hBL => r5Press H8 (Obol.blockL L j) W8.out ⟨Obol.blockL_len L j, blockL_lt HL.out j⟩ (i + 64) (by omega) (by omega) false g2 (64 * j) (c2 - 64 * j) W hlt hBL)
         have eP : Hid (Obol.pressL H8 (Obol.msgL (Obol.blockL L j) 0) ((i + 64)).toNat false = H9) := Lib.hid (by
          rw [← hH9.out, ← hH8.out, Obol.msg_block, show ((i + 64) : Int).toNat = min (64 * (j + 1)) L.length by rw [hlen.out]; omega, show false = decide (L.length ≤ 64 * (j + 1)) by rw [hlen.out]; simp; omega]
          rfl)
         have wu : IntKind.u64.wrap (i + 64) = (i + 64) := by rw [IntKind.wrap_u64]; omega
         go_wp2_with fail
         refine wp_region_noPanic ?_
         refine wp_region_held_drew (S := fun _ => True) (by kernel_rfl) ?_ (fun hHeld => ?_)
         ·exact trivial
         refine tk 1 hHeld ?_; refine tk 2 hHeld ?_; refine tk 3 hHeld ?_; refine tk 4 hHeld ?_; refine tk 5 hHeld ?_; refine tk 6 hHeld ?_; refine tk 7 hHeld ?_; refine tk 8 hHeld ?_
         refine stepH 0 (by kernel_rfl) rfl (by rfl) (fun K hK => ?_)
         refine wp_load_mid _ _ rfl bh 0 rfl (u32s H8).toList _ hR.out.drew.range und8 rfl (by rw [siz8]; simp [hn.out]) ?_
         rw [Array.toArray_toList]
         refine hK.out _ _ ?_ (fun hHeld => ?_)
         ·exact trivial
         clear hK K
         try simp only [Act.put, List.setIfInBounds_toArray, List.set_cons_zero, List.set_cons_succ]
         refine stepH 9 (by kernel_rfl) rfl (by rfl) (fun K hK => ?_)
         go_simp
         refine (cP.out wr.drew hgl (fun i hi => hBLj.out i hi)).mono ?_
         rintro e wn ⟨rfl, hb⟩
         rw [eP.out]
         have hbn : Below wr.heap.size wr wn := bThen (bDrew (Below.refl _ wr)) hb (Nat.le_refl _)
         refine hK.out _ _ ?_ (fun hHeld => ?_)
         ·exact trivial
         clear hK K
         try simp only [Act.put, List.setIfInBounds_toArray, List.set_cons_zero, List.set_cons_succ]
         have RN := Lib.hid (hR.out.below hbn hR.out.lt)
         have hth : wn.there bh 0 (u32s H9).size := by rw [hn2.out, ← hn.out]; exact RN.out.there
         refine stepH 10 (by kernel_rfl) rfl (by rfl) (fun K hK => ?_)
         refine wp_store_mid _ _ _ rfl bh 0 (u32s H9) rfl rfl hth (by rw [siz8, hn2.out]) (u32s_one H9) ?_
         refine hK.out _ _ ?_ (fun hHeld => ?_)
         ·exact trivial
         clear hK K
         try simp only [Act.put, List.setIfInBounds_toArray, List.set_cons_zero, List.set_cons_succ]
         refine wpAnyH_done (by kernel_rfl) (NoPanic.normal ?_) _
         have RZ := Lib.hid (RN.out.store (u32s H9) (by rw [hn2.out, hn.out]))
         have BZ := Lib.hid (bSetMany (b := bh) (by omega) (u32s H9).toList 0 _ (bThen hB.out hbn hB.out.size))
         have LZ := Lib.hid (BL.store (vs := (u32s H9).toList) (o := 0) (hLA.out.below hbn hgl) (show g2 ≠ bh by omega))
         have GZ : g2 < (wn.setCells bh 0 (u32s H9).toList).heap.size := Nat.lt_of_lt_of_le hgl (bSetMany (b := bh) (B := 0) (Nat.zero_le _) (u32s H9).toList 0 _ (hbn.mono (Nat.zero_le _))).size
         generalize wn.setCells bh 0 (u32s H9).toList = wf at RZ BZ LZ GZ ⊢
         clear cP eP hHeld hbn hth RN hb hsl hsl0
         go_wp2_with fail
         go_roundw
         case rel => exact ⟨j + 1, by simp; omega, by omega, by rw [hH9.out]; exact RZ, LZ, GZ, BZ⟩
         case measure => simp [intOf]; omega
       ·obtain rfl : j = nB := by omega
        have W8 := Lib.hid (stH_w hPb.out L j)
        generalize hH8 : Obol.stH P L j = H8 at hR W8 ⊢
        replace hH8 := Lib.hid hH8
        have i1 : ¬ i < (m : Int) := by omega
        have hbw : w.heap.size ≤ wr.heap.size := hB.out.size
        clear hLA hgl
        go_wp2_with fail
        go_loopw [12, 13] (fun q1 q2 wq => ∃ k : Nat, q2 = .int .i64 (k : Int) ∧ k ≤ 8 ∧ Hid (OwnW wq wr.heap.size q1 (H8.take k)) ∧ Hid (Below wr.heap.size wr wq)) (fun _ q2 _ => (8 - intOf q2).toNat)
        case atStart => exact ⟨0, rfl, by omega, Lib.hid (OwnW.nil _ _), Lib.hid (Below.refl _ _)⟩
        case round =>
         rename World => wq
         obtain ⟨k, rfl, hk, hO, hbq⟩ := hrel
         have RQ := Lib.hid (hR.out.below hbq.out hR.out.lt)
         have hbs2 := hbq.out.size
         obtain ⟨i, hi⟩ : ∃ i : Int, (k : Int) = i := ⟨_, rfl⟩
         rw [hi]
         by_cases hk8 : k < 8
         ·have i0 : 0 ≤ i := by omega
          have i1 : i < 8 := by omega
          obtain ⟨x, ex, x0, x1⟩ := word_at W8.out (i := i) (by omega) (by omega)
          have d : wq.cell? ⟨bh, i.toNat, none⟩ = some (.int .u32 x) := RQ.out.cell i.toNat ((u32s_at W8.out (by omega) (by omega)).trans (by rw [ex]))
          have hlk : (H8.take k).length = k := by rw [List.length_take, W8.out.len]; omega
          obtain ⟨v', w', hr, hO', hb'⟩ := append_ownW (wq.alloc (.cells #[.int .u32 x] 88)) wr.heap.size _ _ [x.toNat] (hO.out.keep (bAlloc (Below.refl _ wq) _) (Nat.le_refl _)) ⟨wq.heap.size, 0, none⟩ 1 1 rfl (newsW wq x x0) (by rw [hlk]; simp; omega) (by simp; omega)
          have et : H8.take (k + 1) = H8.take k ++ [x.toNat] := by
           rw [List.take_add_one, List.getElem?_eq_getElem (by rw [W8.out.len]; exact hk8)]
           rw [List.getD_eq_getElem?_getD, List.getElem?_eq_getElem (by rw [W8.out.len]; omega)] at ex
           have : H8[k]'(by rw [W8.out.len]; exact hk8) = x.toNat := by
            have h2 : i.toNat = k := by omega
            simp only [h2] at ex
            simp at ex
            omega
           rw [this]
           rfl
          rw [← et] at hO'
          have HO := Lib.hid hO'
          have HQ := Lib.hid (hbq.out.trans (((Below.refl wr.heap.size wq).alloc hbs2 _).trans hb'))
          clear hO' hb' et hlk hO hbq ex
          go_wp2_with (at_builtin; refine wpList_appended rfl _ _ _ _ rfl _ _ _ rfl rfl hr ?_)
          go_roundw
          case rel => exact ⟨k + 1, by simp; omega, by omega, HO, HQ⟩
          case measure => simp [intOf]; omega
         ·obtain rfl : k = 8 := by omega
          have ht8 : H8.take 8 = H8 := List.take_of_length_le (by rw [W8.out.len]; exact Nat.le_refl _)
          rw [ht8] at hO
          obtain ⟨gv, cv, rfl, hgv, hgv2, -, hWL⟩ := hO.out.size (by rw [W8.out.len]; decide)
          rw [W8.out.len]
          have BQ := Lib.hid (bThen hB.out hbq.out hB.out.size)
          have cB := Lib.hid (r5Bytes gv 8 cv H8 W8.out (by decide) wq hgv2 hWL)
          have i1 : ¬ i < 8 := by omega
          clear hWL hO hbq ht8
          go_wp2_with fail
          refine cB.out.mono ?_
          rintro e wz ⟨v, rfl, hO, hb⟩
          have eS : Obol.sumL P L = Obol.wordsB H8 := by
           unfold Obol.sumL
           rw [hNb.out, hH8.out]
          have hl32 : (Obol.wordsB H8).length = 32 := by rw [wordsB_len, W8.out.len]
          obtain ⟨gz, cz, cur, rfl, -, -, -, -, -, -⟩ := hO.size (by rw [hl32]; decide)
          rw [hl32] at hO ⊢
          have OZ := Lib.hid (hO.base (base' := w.heap.size) (by omega))
          have BZ := Lib.hid (bThen BQ.out hb BQ.out.size)
          clear hO hb
          go_wp2_with fail
          go_ret
          exact ⟨gz, cz, rfl, by rw [eS]; exact OZ.out, BZ.out⟩

end Go.Proofs.YtkfimfjjmdjbdaaGreatDoor
/- Walks: package tx: a transaction's sign, its public numbers; the reference's. -/
namespace Go.Proofs.YtkfimfjjmdjbdaaGreatDoor
open Go.RowKit
set_option linter.unusedVariables false
set_option linter.unusedSimpArgs false

/-- The sign. -/
noncomputable def sgN (t : TxD) (L0 L1 : List Nat) : Nat := Obol.numL (Obol.sumL (strL { data := #[111, 98, 111, 108, 115, 105, 103, 110] }) (hd4 t L0 L1 2)) % 288230376287764481
theorem hd_lt (t : TxD) {L0 L1 : List Nat} (h0 : ∀ x ∈ L0, x < 256) (h1 : ∀ x ∈ L1, x < 256) : ∀ x ∈ hd4 t L0 L1 2, x < 256 := fun x hx => wri_lt t h0 h1 x (by
 unfold wriL bodL
 exact List.mem_append_left _ (List.mem_append_left _ (List.mem_append_left _ (List.mem_append_left _ (List.mem_append_left _ hx)))))
theorem hd_b8 (t : TxD) {L0 L1 : List Nat} (h0 : ∀ x ∈ L0, x < 256) (h1 : ∀ x ∈ L1, x < 256) (n0 : L0.length = 32) (n1 : L1.length = 32) : B8 160 (hd4 t L0 L1 2) := ⟨hd4_len t n0 n1, gd_lt (hd_lt t h0 h1)⟩
theorem hd_bare (t : TxD) (L0 L1 : List Nat) : hd4 (bareD t) L0 L1 2 = hd4 t L0 L1 2 := rfl
theorem ok_bare {t : TxD} (h : TxOk t) : TxOk (bareD t) := { h with a00 := (by show (0 : Int) ≤ 0; decide), a01 := (by show (0 : Int) ≤ 18446744073709551615; decide), a10 := (by show (0 : Int) ≤ 0; decide), a11 := (by show (0 : Int) ≤ 18446744073709551615; decide), xa0 := (by show (0 : Int) ≤ 0; decide), xa1 := (by show (0 : Int) ≤ 18446744073709551615; decide), ya0 := (by show (0 : Int) ≤ 0; decide), ya1 := (by show (0 : Int) ≤ 18446744073709551615; decide), xb0 := (by show (0 : Int) ≤ 0; decide), xb1 := (by show (0 : Int) ≤ 18446744073709551615; decide), yb0 := (by show (0 : Int) ≤ 0; decide), yb1 := (by show (0 : Int) ≤ 18446744073709551615; decide), xc0 := (by show (0 : Int) ≤ 0; decide), xc1 := (by show (0 : Int) ≤ 18446744073709551615; decide), yc0 := (by show (0 : Int) ≤ 0; decide), yc1 := (by show (0 : Int) ≤ 18446744073709551615; decide), gx0 := (by show (0 : Int) ≤ 0; decide), gx1 := (by show (0 : Int) ≤ 18446744073709551615; decide), gy0 := (by show (0 : Int) ≤ 1; decide), gy1 := (by show (1 : Int) ≤ 18446744073709551615; decide), gz0 := (by show (0 : Int) ≤ 0; decide), gz1 := (by show (0 : Int) ≤ 18446744073709551615; decide) }
theorem in_zero9 : inN (0, 1) = true := by
 have h1 : Obol.isN (0, 1) = true := by rw [Obol.isN_eq]; decide +kernel
 unfold inN
 rw [h1, Obol.smulN_eq]
 have e : Obol.Pnt.of (0, 1) = Obol.Pnt.zero := by rw [show ((0, 1) : Nat × Nat) = Obol.Pnt.zero.n from Obol.zero_n.symm, Obol.of_n]
 rw [e, Obol.Pnt.smul_zero, Obol.zero_n]
 rfl
theorem may_bare {t : TxD} (hm : mayB t = true) : mayB (bareD t) = true := by
 have hp : inPt true 0 0 = true := by unfold inPt isPt infC; rfl
 have hz : inN ((0 : Int).toNat, (1 : Int).toNat) = true := in_zero9
 unfold mayB at hm
 simp only [Bool.and_eq_true, Bool.not_eq_true'] at hm
 obtain ⟨h1, h2, h3, h4, h5, h6⟩ := hm
 obtain ⟨a1, a2, a3, a4⟩ := c1_parts h1
 have k1 : c1 (bareD t) = true := by
  unfold numsL at a1
  simp only [List.any_cons, List.any_nil, Bool.or_false, Bool.or_eq_false_iff] at a1
  obtain ⟨b1, b2, b3, b4, b5, _, _⟩ := a1
  have b0 : bigN 0 = false := by unfold bigN; decide +kernel
  unfold c1 numsL
  show (!(bigN t.root.toNat || (bigN t.e0.toNat || (bigN t.e1.toNat || (bigN t.m0.toNat || (bigN t.m1.toNat || (bigN 0 || (bigN 0 || false))))))) && (decide (t.inn < 4294967296) && (decide (t.out < 4294967296) && decide (t.seq ≤ 1125899906842624)))) = true
  rw [b1, b2, b3, b4, b5, b0, decide_eq_true a2, decide_eq_true a3, decide_eq_true a4]
  rfl
 have k4 : c4 (bareD t) = true := by
  show (inPt true 0 0 && (inPt true 0 0 && (inPt true 0 0 && (inN ((0 : Int).toNat, (1 : Int).toNat) && _)))) = true
  rw [hp, hz]; rfl
 have k5 : c5 (bareD t) = false := by
  unfold c5 at h6 ⊢
  show (t.inn == 0 && (t.seq != 0 || !((0 : Int) == 0 && ((1 : Int) == 1 && (0 : Int) == 0)))) = false
  cases hi : (t.inn == 0)
  ·rfl
  ·rw [hi, Bool.true_and, Bool.or_eq_false_iff] at h6
   rw [h6.1]; rfl
 unfold mayB
 show (c1 (bareD t) && (c2 t && (c3 t.n0x t.n0y t.l0 && (c3 t.n1x t.n1y t.l1 && (c4 (bareD t) && !c5 (bareD t)))))) = true
 rw [k1, h2, h3, h4, k4, k5]
 rfl
theorem Bods.bare {t : TxD} {L0 L1 : List Nat} {base : Nat} {w : World} (h : Bods t L0 L1 base w) : Bods (bareD t) L0 L1 base w := ⟨h.n0, h.n1, h.b0, h.b1⟩
theorem head_bare {t : TxD} (hm : mayB (bareD t) = true) : HeadI t := have m := (MayI.of hm).head; ⟨m.pf, m.pt, m.pn0, m.pn1, m.l0, m.l1⟩
set_option maxRecDepth 100000 in
set_option maxHeartbeats 8000000 in
theorem tSignN (t : TxD) (h : TxOk t) (hm : mayB (bareD t) = false) (w : World) : Calls Tryz.prog 7 #[txV t] w fun e w' => e = .returned (.tuple #[.int .u64 0, errV 1]) ∧ Below w.heap.size w w' := by
 have cK0 := fun W => tCheck (bareD t) (ok_bare h) W
 rw [hm] at cK0
 have cK := Lib.hid cK0
 clear h hm cK0
 go_enter Tryz.func7, Tryz.ntmps7
 have und := Tryz.underlying37
 have undP := Tryz.underlying31
 go_upto_region 1 with fail
 have H1 := Lib.hid ((HR.refl w).new (txC t) 37)
 generalize w.alloc (.cells (txC t) 37) = w1 at H1 ⊢
 generalize hb1 : w.heap.size = b1 at H1 ⊢
 have hbs := Lib.hid hb1
 clear hb1
 have hth := Row.newThere w1 #[.bool false, .int .u64 0, .int .u64 0] 31
 go_upto_region 2 with (refine wpList_store_mid rfl _ _ _ rfl w1.heap.size 0 #[.bool true, .int .u64 0, .int .u64 0] rfl rfl hth sizPT (one3 _ _ _) ?_)
 have H2 := Lib.hid (H1.out.fill #[.bool false, .int .u64 0, .int .u64 0] #[.bool true, .int .u64 0, .int .u64 0] 31 rfl)
 have hbs4 : Hid (b1 ≠ w1.heap.size ∧ w.heap.size ≤ w1.heap.size) := Lib.hid ⟨by have := H1.out.lt (b := b1) (cs := txC t) (t := 37) (by simp); omega, H1.out.2.size⟩
 clear hth
 generalize (w1.alloc (.cells #[.bool false, .int .u64 0, .int .u64 0] 31)).setCells w1.heap.size 0 (#[.bool true, .int .u64 0, .int .u64 0] : Array Value).toList = w2 at H2 ⊢
 generalize w1.heap.size = b4 at H2 hbs4 ⊢
 clear H1
 have HP := Lib.hid (HR.sub (qs := [(b4, #[.bool true, .int .u64 0, .int .u64 0], 31)]) H2.out (by simp))
 refine wp_region_noPanic ?_
 refine wp_region_held_drew (S := fun wq => wq.cell? ⟨b4, 0, none⟩ = some (.bool true) ∧ wq.cell? ⟨b4, 1, none⟩ = some (.int .u64 0) ∧ wq.cell? ⟨b4, 2, none⟩ = some (.int .u64 0) ∧ HR w wq [(b4, #[.bool true, .int .u64 0, .int .u64 0], 31)]) (by kernel_rfl) ?_ (fun hHeld => ?_)
 ·exact ⟨HR.cell (HR.drew HP.out) (b := b4) (cs := #[.bool true, .int .u64 0, .int .u64 0]) (t := 31) (by simp) 0 rfl, HR.cell (HR.drew HP.out) (b := b4) (cs := #[.bool true, .int .u64 0, .int .u64 0]) (t := 31) (by simp) 1 rfl, HR.cell (HR.drew HP.out) (b := b4) (cs := #[.bool true, .int .u64 0, .int .u64 0]) (t := 31) (by simp) 2 rfl, HR.drew HP.out⟩
 refine tk 0 hHeld ?_; refine tk 1 hHeld ?_; refine tk 2 hHeld ?_; refine tk 3 hHeld ?_; refine tk 4 hHeld ?_; refine tk 6 hHeld ?_
 refine st 5 fun K hK => ?_
 go_simp
 refine (tUnsigned _).mono ?_
 rintro e wc1 ⟨rfl, hbc1⟩
 have HX0 := (HR.drew H2.out).next hbc1
 refine hK.out _ _ ?_ (fun hHeld => ?_)
 ·exact ⟨HR.cell (hHeld.2.2.2.next hbc1) (b := b4) (cs := #[.bool true, .int .u64 0, .int .u64 0]) (t := 31) (by simp) 0 rfl, HR.cell (hHeld.2.2.2.next hbc1) (b := b4) (cs := #[.bool true, .int .u64 0, .int .u64 0]) (t := 31) (by simp) 1 rfl, HR.cell (hHeld.2.2.2.next hbc1) (b := b4) (cs := #[.bool true, .int .u64 0, .int .u64 0]) (t := 31) (by simp) 2 rfl, hHeld.2.2.2.next hbc1⟩
 clear hK K
 try simp only [Act.put, List.setIfInBounds_toArray, List.set_cons_zero, List.set_cons_succ]
 have HX := HR.sub (qs := [(b1, txC t, 37), (b4, #[.bool true, .int .u64 0, .int .u64 0], 31)]) HX0 (by simp)
 have hth7 := (HX.row (b := b1) (cs := txC (t)) (t := 37) (by simp)).thereMid 18 2 (by simp)
 have HY := HR.putMany (cs := txC (t)) (cs' := txC ({ t with a0 := 0, a1 := 0 })) HX (by have := hbs4.out; simp; omega) (by have := hbs.out; omega) (#[.int .u64 0, .int .u64 0] : Array Value).toList 18 (by simp) rfl
 refine stepH 7 (by kernel_rfl) rfl (by rfl) ?_
 intro K hK
 refine wp_store_mid 25 _ _ rfl b1 18 #[.int .u64 0, .int .u64 0] rfl rfl hth7 sizA2 (one2 _ _) ?_
 refine hK.out _ _ ?_ (fun hHeld => ?_)
 ·exact ⟨HR.cell (HR.otherMany (D := b1) (by have := hbs4.out; simp; omega) (by have := hbs.out; omega) (#[.int .u64 0, .int .u64 0] : Array Value).toList 18 _ hHeld.2.2.2) (b := b4) (cs := #[.bool true, .int .u64 0, .int .u64 0]) (t := 31) (by simp) 0 rfl, HR.cell (HR.otherMany (D := b1) (by have := hbs4.out; simp; omega) (by have := hbs.out; omega) (#[.int .u64 0, .int .u64 0] : Array Value).toList 18 _ hHeld.2.2.2) (b := b4) (cs := #[.bool true, .int .u64 0, .int .u64 0]) (t := 31) (by simp) 1 rfl, HR.cell (HR.otherMany (D := b1) (by have := hbs4.out; simp; omega) (by have := hbs.out; omega) (#[.int .u64 0, .int .u64 0] : Array Value).toList 18 _ hHeld.2.2.2) (b := b4) (cs := #[.bool true, .int .u64 0, .int .u64 0]) (t := 31) (by simp) 2 rfl, (HR.otherMany (D := b1) (by have := hbs4.out; simp; omega) (by have := hbs.out; omega) (#[.int .u64 0, .int .u64 0] : Array Value).toList 18 _ hHeld.2.2.2)⟩
 clear hK K
 try simp only [Act.put, List.setIfInBounds_toArray, List.set_cons_zero, List.set_cons_succ]
 generalize wc1.setCells b1 18 (#[.int .u64 0, .int .u64 0] : Array Value).toList = ws7 at HY hHeld ⊢
 refine tk 8 hHeld ?_
 have hth9 := (HY.row (b := b1) (cs := txC ({ t with a0 := 0, a1 := 0 })) (t := 37) (by simp)).thereMid 20 9 (by simp)
 have HZ := HR.putMany (cs := txC ({ t with a0 := 0, a1 := 0 })) (cs' := txC ({ t with a0 := 0, a1 := 0, ia := true, xa := 0, ya := 0, ib := true, xb := 0, yb := 0, ic := true, xc := 0, yc := 0 })) HY (by have := hbs4.out; simp; omega) (by have := hbs.out; omega) (#[.bool true, .int .u64 0, .int .u64 0, .bool true, .int .u64 0, .int .u64 0, .bool true, .int .u64 0, .int .u64 0] : Array Value).toList 20 (by simp) rfl
 refine stepH 9 (by kernel_rfl) rfl (by rfl) ?_
 intro K hK
 refine wp_store_mid 33 _ _ rfl b1 20 #[.bool true, .int .u64 0, .int .u64 0, .bool true, .int .u64 0, .int .u64 0, .bool true, .int .u64 0, .int .u64 0] rfl rfl hth9 sizPR (one9 _ _ _ _ _ _ _ _ _) ?_
 refine hK.out _ _ ?_ (fun hHeld => ?_)
 ·exact ⟨HR.cell (HR.otherMany (D := b1) (by have := hbs4.out; simp; omega) (by have := hbs.out; omega) (#[.bool true, .int .u64 0, .int .u64 0, .bool true, .int .u64 0, .int .u64 0, .bool true, .int .u64 0, .int .u64 0] : Array Value).toList 20 _ hHeld.2.2.2) (b := b4) (cs := #[.bool true, .int .u64 0, .int .u64 0]) (t := 31) (by simp) 0 rfl, HR.cell (HR.otherMany (D := b1) (by have := hbs4.out; simp; omega) (by have := hbs.out; omega) (#[.bool true, .int .u64 0, .int .u64 0, .bool true, .int .u64 0, .int .u64 0, .bool true, .int .u64 0, .int .u64 0] : Array Value).toList 20 _ hHeld.2.2.2) (b := b4) (cs := #[.bool true, .int .u64 0, .int .u64 0]) (t := 31) (by simp) 1 rfl, HR.cell (HR.otherMany (D := b1) (by have := hbs4.out; simp; omega) (by have := hbs.out; omega) (#[.bool true, .int .u64 0, .int .u64 0, .bool true, .int .u64 0, .int .u64 0, .bool true, .int .u64 0, .int .u64 0] : Array Value).toList 20 _ hHeld.2.2.2) (b := b4) (cs := #[.bool true, .int .u64 0, .int .u64 0]) (t := 31) (by simp) 2 rfl, (HR.otherMany (D := b1) (by have := hbs4.out; simp; omega) (by have := hbs.out; omega) (#[.bool true, .int .u64 0, .int .u64 0, .bool true, .int .u64 0, .int .u64 0, .bool true, .int .u64 0, .int .u64 0] : Array Value).toList 20 _ hHeld.2.2.2)⟩
 clear hK K
 try simp only [Act.put, List.setIfInBounds_toArray, List.set_cons_zero, List.set_cons_succ]
 generalize ws7.setCells b1 20 (#[.bool true, .int .u64 0, .int .u64 0, .bool true, .int .u64 0, .int .u64 0, .bool true, .int .u64 0, .int .u64 0] : Array Value).toList = ws9 at HZ hHeld ⊢
 refine tk 10 hHeld ?_
 have hth11 := (HZ.row (b := b1) (cs := txC ({ t with a0 := 0, a1 := 0, ia := true, xa := 0, ya := 0, ib := true, xb := 0, yb := 0, ic := true, xc := 0, yc := 0 })) (t := 37) (by simp)).thereMid 29 3 (by simp)
 have HW := HR.putMany (cs := txC ({ t with a0 := 0, a1 := 0, ia := true, xa := 0, ya := 0, ib := true, xb := 0, yb := 0, ic := true, xc := 0, yc := 0 })) (cs' := txC (bareD t)) HZ (by have := hbs4.out; simp; omega) (by have := hbs.out; omega) (#[.int .u64 0, .int .u64 1, .int .u64 0] : Array Value).toList 29 (by simp) rfl
 refine stepH 11 (by kernel_rfl) rfl (by rfl) ?_
 intro K hK
 refine wp_store_mid 35 _ _ rfl b1 29 #[.int .u64 0, .int .u64 1, .int .u64 0] rfl rfl hth11 sizSG (one3u _ _ _) ?_
 refine hK.out _ _ ?_ (fun hHeld => ?_)
 ·exact ⟨HR.cell (HR.otherMany (D := b1) (by have := hbs4.out; simp; omega) (by have := hbs.out; omega) (#[.int .u64 0, .int .u64 1, .int .u64 0] : Array Value).toList 29 _ hHeld.2.2.2) (b := b4) (cs := #[.bool true, .int .u64 0, .int .u64 0]) (t := 31) (by simp) 0 rfl, HR.cell (HR.otherMany (D := b1) (by have := hbs4.out; simp; omega) (by have := hbs.out; omega) (#[.int .u64 0, .int .u64 1, .int .u64 0] : Array Value).toList 29 _ hHeld.2.2.2) (b := b4) (cs := #[.bool true, .int .u64 0, .int .u64 0]) (t := 31) (by simp) 1 rfl, HR.cell (HR.otherMany (D := b1) (by have := hbs4.out; simp; omega) (by have := hbs.out; omega) (#[.int .u64 0, .int .u64 1, .int .u64 0] : Array Value).toList 29 _ hHeld.2.2.2) (b := b4) (cs := #[.bool true, .int .u64 0, .int .u64 0]) (t := 31) (by simp) 2 rfl, (HR.otherMany (D := b1) (by have := hbs4.out; simp; omega) (by have := hbs.out; omega) (#[.int .u64 0, .int .u64 1, .int .u64 0] : Array Value).toList 29 _ hHeld.2.2.2)⟩
 clear hK K
 try simp only [Act.put, List.setIfInBounds_toArray, List.set_cons_zero, List.set_cons_succ]
 generalize ws9.setCells b1 29 (#[.int .u64 0, .int .u64 1, .int .u64 0] : Array Value).toList = ws11 at HW hHeld ⊢
 refine wpAnyH_done (by kernel_rfl) (NoPanic.normal ?_) _
 have H5 : Hid (HR w _ [(b1, txC (bareD t), 37)]) := Lib.hid (HR.sub HW (by simp))
 clear hHeld H2 HP HX0 HX HY HZ HW hth7 hth9 hth11
 have RT := Lib.hid (H5.out.row (b := b1) (cs := txC (bareD t)) (t := 37) (by simp))
 go_wp2_with (refine wpList_load_row rfl _ _ rfl b1 rfl 37 (txC (bareD t)) (0, 0) _ RT.out und rfl sizTX ?_)
 refine (cK.out _).mono ?_
 rintro e w6 ⟨rfl, hb⟩
 have H6 := Lib.hid (H5.out.next hb)
 clear RT hb H5
 have hE := fun W => neE19 W 1
 go_wp2_with fail
 go_ret2
 exact ⟨rfl, H6.out.2⟩
set_option maxRecDepth 100000 in
set_option maxHeartbeats 8000000 in
theorem tSignY (t : TxD) (L0 L1 : List Nat) (h : TxOk t) (hm : mayB (bareD t) = true) (x0 : ∀ x ∈ L0, x < 256) (x1 : ∀ x ∈ L1, x < 256) (w : World) (hG : RowsAt w) (hB : Bods t L0 L1 w.heap.size w) : Calls Tryz.prog 7 #[txV t] w fun e w' => e = .returned (.tuple #[.int .u64 ((sgN t L0 L1 : Nat) : Int), .nilIface]) ∧ Below w.heap.size w w' := by
 have cK0 := fun W => tCheck (bareD t) (ok_bare h) W
 rw [hm] at cK0
 have cK := Lib.hid cK0
 have mI := MayI.of hm
 have n0 : L0.length = 32 := hB.n0.trans mI.l0
 have n1 : L1.length = 32 := hB.n1.trans mI.l1
 have cH0 := fun W (hb : Below w.heap.size w W) => tHead (bareD t) L0 L1 (ok_bare h) mI.pf mI.pt mI.pn0 mI.pn1 mI.l0 mI.l1 W (hB.bare.at hb)
 rw [hd_bare] at cH0
 have cH := Lib.hid cH0
 clear cH0
 have b8 := Lib.hid (hd_b8 t x0 x1 n0 n1)
 have G := Lib.hid hG
 have hsg : Hid (sgN t L0 L1 = Obol.numL (Obol.sumL (strL { data := #[111, 98, 111, 108, 115, 105, 103, 110] }) (hd4 t L0 L1 2)) % 288230376287764481) := Lib.hid rfl
 clear h hm cK0 mI n0 n1 x0 x1 hB hG
 go_enter Tryz.func7, Tryz.ntmps7
 have und := Tryz.underlying37
 have undP := Tryz.underlying31
 go_upto_region 1 with fail
 have H1 := Lib.hid ((HR.refl w).new (txC t) 37)
 generalize w.alloc (.cells (txC t) 37) = w1 at H1 ⊢
 generalize hb1 : w.heap.size = b1 at H1 ⊢
 have hbs := Lib.hid hb1
 clear hb1
 have hth := Row.newThere w1 #[.bool false, .int .u64 0, .int .u64 0] 31
 go_upto_region 2 with (refine wpList_store_mid rfl _ _ _ rfl w1.heap.size 0 #[.bool true, .int .u64 0, .int .u64 0] rfl rfl hth sizPT (one3 _ _ _) ?_)
 have H2 := Lib.hid (H1.out.fill #[.bool false, .int .u64 0, .int .u64 0] #[.bool true, .int .u64 0, .int .u64 0] 31 rfl)
 have hbs4 : Hid (b1 ≠ w1.heap.size ∧ w.heap.size ≤ w1.heap.size) := Lib.hid ⟨by have := H1.out.lt (b := b1) (cs := txC t) (t := 37) (by simp); omega, H1.out.2.size⟩
 clear hth
 generalize (w1.alloc (.cells #[.bool false, .int .u64 0, .int .u64 0] 31)).setCells w1.heap.size 0 (#[.bool true, .int .u64 0, .int .u64 0] : Array Value).toList = w2 at H2 ⊢
 generalize w1.heap.size = b4 at H2 hbs4 ⊢
 clear H1
 have HP := Lib.hid (HR.sub (qs := [(b4, #[.bool true, .int .u64 0, .int .u64 0], 31)]) H2.out (by simp))
 refine wp_region_noPanic ?_
 refine wp_region_held_drew (S := fun wq => wq.cell? ⟨b4, 0, none⟩ = some (.bool true) ∧ wq.cell? ⟨b4, 1, none⟩ = some (.int .u64 0) ∧ wq.cell? ⟨b4, 2, none⟩ = some (.int .u64 0) ∧ HR w wq [(b4, #[.bool true, .int .u64 0, .int .u64 0], 31)]) (by kernel_rfl) ?_ (fun hHeld => ?_)
 ·exact ⟨HR.cell (HR.drew HP.out) (b := b4) (cs := #[.bool true, .int .u64 0, .int .u64 0]) (t := 31) (by simp) 0 rfl, HR.cell (HR.drew HP.out) (b := b4) (cs := #[.bool true, .int .u64 0, .int .u64 0]) (t := 31) (by simp) 1 rfl, HR.cell (HR.drew HP.out) (b := b4) (cs := #[.bool true, .int .u64 0, .int .u64 0]) (t := 31) (by simp) 2 rfl, HR.drew HP.out⟩
 refine tk 0 hHeld ?_; refine tk 1 hHeld ?_; refine tk 2 hHeld ?_; refine tk 3 hHeld ?_; refine tk 4 hHeld ?_; refine tk 6 hHeld ?_
 refine st 5 fun K hK => ?_
 go_simp
 refine (tUnsigned _).mono ?_
 rintro e wc1 ⟨rfl, hbc1⟩
 have HX0 := (HR.drew H2.out).next hbc1
 refine hK.out _ _ ?_ (fun hHeld => ?_)
 ·exact ⟨HR.cell (hHeld.2.2.2.next hbc1) (b := b4) (cs := #[.bool true, .int .u64 0, .int .u64 0]) (t := 31) (by simp) 0 rfl, HR.cell (hHeld.2.2.2.next hbc1) (b := b4) (cs := #[.bool true, .int .u64 0, .int .u64 0]) (t := 31) (by simp) 1 rfl, HR.cell (hHeld.2.2.2.next hbc1) (b := b4) (cs := #[.bool true, .int .u64 0, .int .u64 0]) (t := 31) (by simp) 2 rfl, hHeld.2.2.2.next hbc1⟩
 clear hK K
 try simp only [Act.put, List.setIfInBounds_toArray, List.set_cons_zero, List.set_cons_succ]
 have HX := HR.sub (qs := [(b1, txC t, 37), (b4, #[.bool true, .int .u64 0, .int .u64 0], 31)]) HX0 (by simp)
 have hth7 := (HX.row (b := b1) (cs := txC (t)) (t := 37) (by simp)).thereMid 18 2 (by simp)
 have HY := HR.putMany (cs := txC (t)) (cs' := txC ({ t with a0 := 0, a1 := 0 })) HX (by have := hbs4.out; simp; omega) (by have := hbs.out; omega) (#[.int .u64 0, .int .u64 0] : Array Value).toList 18 (by simp) rfl
 refine stepH 7 (by kernel_rfl) rfl (by rfl) ?_
 intro K hK
 refine wp_store_mid 25 _ _ rfl b1 18 #[.int .u64 0, .int .u64 0] rfl rfl hth7 sizA2 (one2 _ _) ?_
 refine hK.out _ _ ?_ (fun hHeld => ?_)
 ·exact ⟨HR.cell (HR.otherMany (D := b1) (by have := hbs4.out; simp; omega) (by have := hbs.out; omega) (#[.int .u64 0, .int .u64 0] : Array Value).toList 18 _ hHeld.2.2.2) (b := b4) (cs := #[.bool true, .int .u64 0, .int .u64 0]) (t := 31) (by simp) 0 rfl, HR.cell (HR.otherMany (D := b1) (by have := hbs4.out; simp; omega) (by have := hbs.out; omega) (#[.int .u64 0, .int .u64 0] : Array Value).toList 18 _ hHeld.2.2.2) (b := b4) (cs := #[.bool true, .int .u64 0, .int .u64 0]) (t := 31) (by simp) 1 rfl, HR.cell (HR.otherMany (D := b1) (by have := hbs4.out; simp; omega) (by have := hbs.out; omega) (#[.int .u64 0, .int .u64 0] : Array Value).toList 18 _ hHeld.2.2.2) (b := b4) (cs := #[.bool true, .int .u64 0, .int .u64 0]) (t := 31) (by simp) 2 rfl, (HR.otherMany (D := b1) (by have := hbs4.out; simp; omega) (by have := hbs.out; omega) (#[.int .u64 0, .int .u64 0] : Array Value).toList 18 _ hHeld.2.2.2)⟩
 clear hK K
 try simp only [Act.put, List.setIfInBounds_toArray, List.set_cons_zero, List.set_cons_succ]
 generalize wc1.setCells b1 18 (#[.int .u64 0, .int .u64 0] : Array Value).toList = ws7 at HY hHeld ⊢
 refine tk 8 hHeld ?_
 have hth9 := (HY.row (b := b1) (cs := txC ({ t with a0 := 0, a1 := 0 })) (t := 37) (by simp)).thereMid 20 9 (by simp)
 have HZ := HR.putMany (cs := txC ({ t with a0 := 0, a1 := 0 })) (cs' := txC ({ t with a0 := 0, a1 := 0, ia := true, xa := 0, ya := 0, ib := true, xb := 0, yb := 0, ic := true, xc := 0, yc := 0 })) HY (by have := hbs4.out; simp; omega) (by have := hbs.out; omega) (#[.bool true, .int .u64 0, .int .u64 0, .bool true, .int .u64 0, .int .u64 0, .bool true, .int .u64 0, .int .u64 0] : Array Value).toList 20 (by simp) rfl
 refine stepH 9 (by kernel_rfl) rfl (by rfl) ?_
 intro K hK
 refine wp_store_mid 33 _ _ rfl b1 20 #[.bool true, .int .u64 0, .int .u64 0, .bool true, .int .u64 0, .int .u64 0, .bool true, .int .u64 0, .int .u64 0] rfl rfl hth9 sizPR (one9 _ _ _ _ _ _ _ _ _) ?_
 refine hK.out _ _ ?_ (fun hHeld => ?_)
 ·exact ⟨HR.cell (HR.otherMany (D := b1) (by have := hbs4.out; simp; omega) (by have := hbs.out; omega) (#[.bool true, .int .u64 0, .int .u64 0, .bool true, .int .u64 0, .int .u64 0, .bool true, .int .u64 0, .int .u64 0] : Array Value).toList 20 _ hHeld.2.2.2) (b := b4) (cs := #[.bool true, .int .u64 0, .int .u64 0]) (t := 31) (by simp) 0 rfl, HR.cell (HR.otherMany (D := b1) (by have := hbs4.out; simp; omega) (by have := hbs.out; omega) (#[.bool true, .int .u64 0, .int .u64 0, .bool true, .int .u64 0, .int .u64 0, .bool true, .int .u64 0, .int .u64 0] : Array Value).toList 20 _ hHeld.2.2.2) (b := b4) (cs := #[.bool true, .int .u64 0, .int .u64 0]) (t := 31) (by simp) 1 rfl, HR.cell (HR.otherMany (D := b1) (by have := hbs4.out; simp; omega) (by have := hbs.out; omega) (#[.bool true, .int .u64 0, .int .u64 0, .bool true, .int .u64 0, .int .u64 0, .bool true, .int .u64 0, .int .u64 0] : Array Value).toList 20 _ hHeld.2.2.2) (b := b4) (cs := #[.bool true, .int .u64 0, .int .u64 0]) (t := 31) (by simp) 2 rfl, (HR.otherMany (D := b1) (by have := hbs4.out; simp; omega) (by have := hbs.out; omega) (#[.bool true, .int .u64 0, .int .u64 0, .bool true, .int .u64 0, .int .u64 0, .bool true, .int .u64 0, .int .u64 0] : Array Value).toList 20 _ hHeld.2.2.2)⟩
 clear hK K
 try simp only [Act.put, List.setIfInBounds_toArray, List.set_cons_zero, List.set_cons_succ]
 generalize ws7.setCells b1 20 (#[.bool true, .int .u64 0, .int .u64 0, .bool true, .int .u64 0, .int .u64 0, .bool true, .int .u64 0, .int .u64 0] : Array Value).toList = ws9 at HZ hHeld ⊢
 refine tk 10 hHeld ?_
 have hth11 := (HZ.row (b := b1) (cs := txC ({ t with a0 := 0, a1 := 0, ia := true, xa := 0, ya := 0, ib := true, xb := 0, yb := 0, ic := true, xc := 0, yc := 0 })) (t := 37) (by simp)).thereMid 29 3 (by simp)
 have HW := HR.putMany (cs := txC ({ t with a0 := 0, a1 := 0, ia := true, xa := 0, ya := 0, ib := true, xb := 0, yb := 0, ic := true, xc := 0, yc := 0 })) (cs' := txC (bareD t)) HZ (by have := hbs4.out; simp; omega) (by have := hbs.out; omega) (#[.int .u64 0, .int .u64 1, .int .u64 0] : Array Value).toList 29 (by simp) rfl
 refine stepH 11 (by kernel_rfl) rfl (by rfl) ?_
 intro K hK
 refine wp_store_mid 35 _ _ rfl b1 29 #[.int .u64 0, .int .u64 1, .int .u64 0] rfl rfl hth11 sizSG (one3u _ _ _) ?_
 refine hK.out _ _ ?_ (fun hHeld => ?_)
 ·exact ⟨HR.cell (HR.otherMany (D := b1) (by have := hbs4.out; simp; omega) (by have := hbs.out; omega) (#[.int .u64 0, .int .u64 1, .int .u64 0] : Array Value).toList 29 _ hHeld.2.2.2) (b := b4) (cs := #[.bool true, .int .u64 0, .int .u64 0]) (t := 31) (by simp) 0 rfl, HR.cell (HR.otherMany (D := b1) (by have := hbs4.out; simp; omega) (by have := hbs.out; omega) (#[.int .u64 0, .int .u64 1, .int .u64 0] : Array Value).toList 29 _ hHeld.2.2.2) (b := b4) (cs := #[.bool true, .int .u64 0, .int .u64 0]) (t := 31) (by simp) 1 rfl, HR.cell (HR.otherMany (D := b1) (by have := hbs4.out; simp; omega) (by have := hbs.out; omega) (#[.int .u64 0, .int .u64 1, .int .u64 0] : Array Value).toList 29 _ hHeld.2.2.2) (b := b4) (cs := #[.bool true, .int .u64 0, .int .u64 0]) (t := 31) (by simp) 2 rfl, (HR.otherMany (D := b1) (by have := hbs4.out; simp; omega) (by have := hbs.out; omega) (#[.int .u64 0, .int .u64 1, .int .u64 0] : Array Value).toList 29 _ hHeld.2.2.2)⟩
 clear hK K
 try simp only [Act.put, List.setIfInBounds_toArray, List.set_cons_zero, List.set_cons_succ]
 generalize ws9.setCells b1 29 (#[.int .u64 0, .int .u64 1, .int .u64 0] : Array Value).toList = ws11 at HW hHeld ⊢
 refine wpAnyH_done (by kernel_rfl) (NoPanic.normal ?_) _
 have H5 : Hid (HR w _ [(b1, txC (bareD t), 37)]) := Lib.hid (HR.sub HW (by simp))
 clear hHeld H2 HP HX0 HX HY HZ HW hth7 hth9 hth11
 have RT := Lib.hid (H5.out.row (b := b1) (cs := txC (bareD t)) (t := 37) (by simp))
 go_wp2_with (refine wpList_load_row rfl _ _ rfl b1 rfl 37 (txC (bareD t)) (0, 0) _ RT.out und rfl sizTX ?_)
 refine (cK.out _).mono ?_
 rintro e w6 ⟨rfl, hb⟩
 have H6 := Lib.hid (H5.out.next hb)
 clear RT hb H5
 have hE := fun W => neN19 W
 have RT := Lib.hid (H6.out.row (b := b1) (cs := txC (bareD t)) (t := 37) (by simp))
 go_wp2_with (refine wpList_load_row rfl _ _ rfl b1 rfl 37 (txC (bareD t)) (0, 0) _ RT.out und rfl sizTX ?_)
 refine (cH.out _ H6.out.2).mono ?_
 rintro e w7 ⟨v, rfl, hO, hb⟩
 have H7 := Lib.hid (H6.out.next hb)
 obtain ⟨a, c, rfl⟩ := own_any9 hO
 have SB := Lib.hid (OwnB.sl9 hO).2
 rw [b8.out.len]
 clear hO
 clear RT hb H6
 go_wp2_with fail
 refine (bNumber { data := #[111, 98, 111, 108, 115, 105, 103, 110] } (by decide) a 160 c _ b8.out 288230376287764481 (by omega) (by omega) _ SB.out (G.out.below H7.out.2)).mono ?_
 rintro e w8 ⟨rfl, hb⟩
 have H8 := Lib.hid (H7.out.next hb)
 clear hb H7
 have eq1 : (((Obol.numL (Obol.sumL (strL { data := #[111, 98, 111, 108, 115, 105, 103, 110] }) (hd4 t L0 L1 2)) : Nat) : Int) % 288230376287764481) = ((sgN t L0 L1 : Nat) : Int) := by rw [hsg.out]; exact (Int.natCast_emod _ _).symm
 rw [eq1]
 clear eq1
 generalize hsg2 : ((sgN t L0 L1 : Nat) : Int) = sg
 replace hsg2 := Lib.hid hsg2
 go_wp2_with fail
 go_ret2
 exact ⟨by rw [hsg2.out]; rfl, H8.out.2⟩
set_option maxRecDepth 100000 in
set_option maxHeartbeats 8000000 in
theorem rSign (t : TxD) (L0 L1 : List Nat) (h : TxOk t) (m : HeadI t) (x0 : ∀ x ∈ L0, x < 256) (x1 : ∀ x ∈ L1, x < 256) (w : World) (hB : Bods t L0 L1 w.heap.size w) : Calls Tryz.prog 11 #[txV t] w fun e w' => e = .returned (.int .u64 ((sgN t L0 L1 : Nat) : Int)) ∧ Below w.heap.size w w' := by
 have b8 := Lib.hid (hd_b8 t x0 x1 (hB.n0.trans m.l0) (hB.n1.trans m.l1))
 have cH := Lib.hid (fun W (hb : Below w.heap.size w W) => r19Head t L0 L1 h m W (hB.at hb))
 have hD := Lib.hid (sumL_b8 (strL { data := #[111, 98, 111, 108, 115, 105, 103, 110] }) (hd4 t L0 L1 2) (strL_lt { data := #[111, 98, 111, 108, 115, 105, 103, 110] }))
 obtain ⟨nn, hnn⟩ : ∃ z : Int, ((Obol.numL (Obol.sumL (strL { data := #[111, 98, 111, 108, 115, 105, 103, 110] }) (hd4 t L0 L1 2)) : Nat) : Int) = z := ⟨_, rfl⟩
 have hsg : Hid (((sgN t L0 L1 : Nat) : Int) = nn % 288230376287764481) := Lib.hid (by rw [← hnn]; exact Int.natCast_emod _ _)
 have nn0 : 0 ≤ nn := by omega
 have e1 : nn.tmod 288230376287764481 = nn % 288230376287764481 := Int.tmod_eq_emod_of_nonneg nn0
 replace hnn := Lib.hid hnn
 clear h m x0 x1 hB
 go_enter Tryz.func11, Tryz.ntmps11
 have und := Tryz.underlying37
 have undP := Tryz.underlying31
 go_upto_region 1 with fail
 have H1 := Lib.hid ((HR.refl w).new (txC t) 37)
 generalize w.alloc (.cells (txC t) 37) = w1 at H1 ⊢
 generalize hb1 : w.heap.size = b1 at H1 ⊢
 have hbs := Lib.hid hb1
 clear hb1
 have RT := Lib.hid (H1.out.row (b := b1) (cs := txC t) (t := 37) (by simp))
 go_wp2_with (refine wpList_load_row rfl _ _ rfl b1 rfl 37 (txC t) (0, 0) _ RT.out und rfl sizTX ?_)
 refine (cH.out _ H1.out.2).mono ?_
 rintro e w2 ⟨g, c, rfl, hO, hb⟩
 have H2 := Lib.hid (H1.out.next hb)
 have O2 := Lib.hid hO
 clear RT hb hO H1
 go_wp2_with fail
 refine (r5Sum { data := #[111, 98, 111, 108, 115, 105, 103, 110] } (by decide) (some ⟨g, 0, none⟩) 160 c _ b8.out (by omega) _ (fun h => by cases h) (fun _ => ⟨g, 0, rfl, own_blz O2.out b8.out.len⟩)).mono ?_
 rintro e w3 ⟨g2, c2, rfl, hO3, hb⟩
 have H3 := Lib.hid (H2.out.next hb)
 have O3 := Lib.hid hO3
 clear hb H2 hO3
 go_wp2_with fail
 refine (r5Number g2 0 32 c2 _ 32 hD.out (by omega) rfl (by omega) _ (own_blz O3.out hD.out.len)).mono ?_
 rintro e w4 ⟨rfl, hw⟩
 rw [hw, hnn.out]
 clear hw
 go_wp2_with fail
 go_ret
 exact ⟨by rw [hsg.out]; rfl, H3.out.2⟩

end Go.Proofs.YtkfimfjjmdjbdaaGreatDoor
/- Walks: package tx: a transaction's public numbers; the reference of layer 13: are two lists the same? -/
namespace Go.Proofs.YtkfimfjjmdjbdaaGreatDoor
open Go.RowKit
set_option linter.unusedVariables false
set_option linter.unusedSimpArgs false

/-- The public numbers. -/
abbrev pubL (t : TxD) (sn : Nat) : List Nat := [t.root.toNat, t.inn.toNat, t.out.toNat, sn, t.e0.toNat, t.e1.toNat, t.m0.toNat, t.m1.toNat, t.a0.toNat, t.a1.toNat]
theorem pub_ul {t : TxD} (h : TxOk t) (sn : Nat) {W : World} {g : Nat} (hR : Row W g #[.int .u64 t.root, .int .u64 t.inn, .int .u64 t.out, .int .u64 (sn : Int), .int .u64 t.e0, .int .u64 t.e1, .int .u64 t.m0, .int .u64 t.m1, .int .u64 t.a0, .int .u64 t.a1] 22) : UL W g 0 (pubL t sn) := fun i hi => by
 rw [Nat.zero_add]
 match i, hi with
 | 0, _ =>
  show W.cell? ⟨g, 0, none⟩ = some (.int .u64 (((t.root.toNat : Nat)) : Int))
  rw [Int.toNat_of_nonneg h.root0]; exact hR.cell 0 rfl
 | 1, _ =>
  show W.cell? ⟨g, 1, none⟩ = some (.int .u64 (((t.inn.toNat : Nat)) : Int))
  rw [Int.toNat_of_nonneg h.inn0]; exact hR.cell 1 rfl
 | 2, _ =>
  show W.cell? ⟨g, 2, none⟩ = some (.int .u64 (((t.out.toNat : Nat)) : Int))
  rw [Int.toNat_of_nonneg h.out0]; exact hR.cell 2 rfl
 | 3, _ =>
  show W.cell? ⟨g, 3, none⟩ = some (.int .u64 (((sn : Nat)) : Int))
  exact hR.cell 3 rfl
 | 4, _ =>
  show W.cell? ⟨g, 4, none⟩ = some (.int .u64 (((t.e0.toNat : Nat)) : Int))
  rw [Int.toNat_of_nonneg h.e00]; exact hR.cell 4 rfl
 | 5, _ =>
  show W.cell? ⟨g, 5, none⟩ = some (.int .u64 (((t.e1.toNat : Nat)) : Int))
  rw [Int.toNat_of_nonneg h.e10]; exact hR.cell 5 rfl
 | 6, _ =>
  show W.cell? ⟨g, 6, none⟩ = some (.int .u64 (((t.m0.toNat : Nat)) : Int))
  rw [Int.toNat_of_nonneg h.m00]; exact hR.cell 6 rfl
 | 7, _ =>
  show W.cell? ⟨g, 7, none⟩ = some (.int .u64 (((t.m1.toNat : Nat)) : Int))
  rw [Int.toNat_of_nonneg h.m10]; exact hR.cell 7 rfl
 | 8, _ =>
  show W.cell? ⟨g, 8, none⟩ = some (.int .u64 (((t.a0.toNat : Nat)) : Int))
  rw [Int.toNat_of_nonneg h.a00]; exact hR.cell 8 rfl
 | 9, _ =>
  show W.cell? ⟨g, 9, none⟩ = some (.int .u64 (((t.a1.toNat : Nat)) : Int))
  rw [Int.toNat_of_nonneg h.a10]; exact hR.cell 9 rfl
theorem parts3_ok (t : TxD) (h : TxOk t) (sn : Nat) (W : World) (b1 g : Nat) (hR : Row W b1 (txC t) 37) (hG : Row W g #[.int .u64 t.root, .int .u64 t.inn, .int .u64 t.out, .int .u64 (sn : Int)] 22) : ∀ j (hj : j < (([⟨g, 0, 4, 4, [t.root.toNat, t.inn.toNat, t.out.toNat, sn]⟩, ⟨b1, 8, 2, 2, [t.e0.toNat, t.e1.toNat]⟩, ⟨b1, 10, 2, 2, [t.m0.toNat, t.m1.toNat]⟩, ⟨b1, 18, 2, 2, [t.a0.toNat, t.a1.toNat]⟩] : List Part)).length), ((([⟨g, 0, 4, 4, [t.root.toNat, t.inn.toNat, t.out.toNat, sn]⟩, ⟨b1, 8, 2, 2, [t.e0.toNat, t.e1.toNat]⟩, ⟨b1, 10, 2, 2, [t.m0.toNat, t.m1.toNat]⟩, ⟨b1, 18, 2, 2, [t.a0.toNat, t.a1.toNat]⟩] : List Part))[j]).L.length = ((([⟨g, 0, 4, 4, [t.root.toNat, t.inn.toNat, t.out.toNat, sn]⟩, ⟨b1, 8, 2, 2, [t.e0.toNat, t.e1.toNat]⟩, ⟨b1, 10, 2, 2, [t.m0.toNat, t.m1.toNat]⟩, ⟨b1, 18, 2, 2, [t.a0.toNat, t.a1.toNat]⟩] : List Part))[j]).n ∧ UL W ((([⟨g, 0, 4, 4, [t.root.toNat, t.inn.toNat, t.out.toNat, sn]⟩, ⟨b1, 8, 2, 2, [t.e0.toNat, t.e1.toNat]⟩, ⟨b1, 10, 2, 2, [t.m0.toNat, t.m1.toNat]⟩, ⟨b1, 18, 2, 2, [t.a0.toNat, t.a1.toNat]⟩] : List Part))[j]).g ((([⟨g, 0, 4, 4, [t.root.toNat, t.inn.toNat, t.out.toNat, sn]⟩, ⟨b1, 8, 2, 2, [t.e0.toNat, t.e1.toNat]⟩, ⟨b1, 10, 2, 2, [t.m0.toNat, t.m1.toNat]⟩, ⟨b1, 18, 2, 2, [t.a0.toNat, t.a1.toNat]⟩] : List Part))[j]).o ((([⟨g, 0, 4, 4, [t.root.toNat, t.inn.toNat, t.out.toNat, sn]⟩, ⟨b1, 8, 2, 2, [t.e0.toNat, t.e1.toNat]⟩, ⟨b1, 10, 2, 2, [t.m0.toNat, t.m1.toNat]⟩, ⟨b1, 18, 2, 2, [t.a0.toNat, t.a1.toNat]⟩] : List Part))[j]).L ∧ ((([⟨g, 0, 4, 4, [t.root.toNat, t.inn.toNat, t.out.toNat, sn]⟩, ⟨b1, 8, 2, 2, [t.e0.toNat, t.e1.toNat]⟩, ⟨b1, 10, 2, 2, [t.m0.toNat, t.m1.toNat]⟩, ⟨b1, 18, 2, 2, [t.a0.toNat, t.a1.toNat]⟩] : List Part))[j]).g < W.heap.size := by
 intro j hj
 have two : ∀ (o : Nat) (x y : Int), 0 ≤ x → 0 ≤ y → W.cell? ⟨b1, o, none⟩ = some (.int .u64 x) → W.cell? ⟨b1, o + 1, none⟩ = some (.int .u64 y) → UL W b1 o [x.toNat, y.toNat] := fun o x y hx hy h1 h2 i hi => by
  match i, hi with
  | 0, _ =>
   show W.cell? ⟨b1, o, none⟩ = some (.int .u64 ((x.toNat : Nat) : Int))
   rw [Int.toNat_of_nonneg hx]; exact h1
  | 1, _ =>
   show W.cell? ⟨b1, o + 1, none⟩ = some (.int .u64 ((y.toNat : Nat) : Int))
   rw [Int.toNat_of_nonneg hy]; exact h2
 match j, hj with
 | 0, _ => exact ⟨rfl, fun i hi => by
   match i, hi with
   | 0, _ =>
    show W.cell? ⟨g, 0, none⟩ = some (.int .u64 ((t.root.toNat : Nat) : Int))
    rw [Int.toNat_of_nonneg h.root0]; exact hG.cell 0 rfl
   | 1, _ =>
    show W.cell? ⟨g, 1, none⟩ = some (.int .u64 ((t.inn.toNat : Nat) : Int))
    rw [Int.toNat_of_nonneg h.inn0]; exact hG.cell 1 rfl
   | 2, _ =>
    show W.cell? ⟨g, 2, none⟩ = some (.int .u64 ((t.out.toNat : Nat) : Int))
    rw [Int.toNat_of_nonneg h.out0]; exact hG.cell 2 rfl
   | 3, _ => exact hG.cell 3 rfl, hG.lt⟩
 | 1, _ => exact ⟨rfl, two 8 t.e0 t.e1 h.e00 h.e10 (hR.cell 8 rfl) (hR.cell 9 rfl), hR.lt⟩
 | 2, _ => exact ⟨rfl, two 10 t.m0 t.m1 h.m00 h.m10 (hR.cell 10 rfl) (hR.cell 11 rfl), hR.lt⟩
 | 3, _ => exact ⟨rfl, two 18 t.a0 t.a1 h.a00 h.a10 (hR.cell 18 rfl) (hR.cell 19 rfl), hR.lt⟩
set_option maxRecDepth 100000 in
set_option maxHeartbeats 8000000 in
theorem tPublicsN (t : TxD) (h : TxOk t) (hm : mayB t = false) (w : World) : Calls Tryz.prog 8 #[txV t] w fun e w' => e = .returned (.tuple #[.slice none 0 0, errV 1]) ∧ Below w.heap.size w w' := by
 have cK0 := fun W => tCheck t h W
 rw [hm] at cK0
 have cK := Lib.hid cK0
 clear h hm cK0
 go_enter Tryz.func8, Tryz.ntmps8
 have und := Tryz.underlying37
 have undP := Tryz.underlying31
 go_upto_region 1 with fail
 have H1 := Lib.hid ((HR.refl w).new (txC t) 37)
 generalize w.alloc (.cells (txC t) 37) = w1 at H1 ⊢
 generalize hb1 : w.heap.size = b1 at H1 ⊢
 have hbs := Lib.hid hb1
 clear hb1
 have RT := Lib.hid (H1.out.row (b := b1) (cs := txC t) (t := 37) (by simp))
 go_wp2_with (refine wpList_load_row rfl _ _ rfl b1 rfl 37 (txC t) (0, 0) _ RT.out und rfl sizTX ?_)
 refine (cK.out _).mono ?_
 rintro e w2 ⟨rfl, hb⟩
 have H2 := Lib.hid (H1.out.next hb)
 clear RT hb H1
 have hE := fun W => neE19 W 1
 go_wp2_with fail
 go_ret2
 exact ⟨rfl, H2.out.2⟩
set_option maxRecDepth 100000 in
set_option maxHeartbeats 8000000 in
theorem tPublicsY (t : TxD) (L0 L1 : List Nat) (h : TxOk t) (hm : mayB t = true) (x0 : ∀ x ∈ L0, x < 256) (x1 : ∀ x ∈ L1, x < 256) (w : World) (hG : RowsAt w) (hB : Bods t L0 L1 w.heap.size w) : Calls Tryz.prog 8 #[txV t] w fun e w' => ∃ g c, e = .returned (.tuple #[.slice (some ⟨g, 0, none⟩) 10 c, .nilIface]) ∧ UL w' g 0 (pubL t (sgN t L0 L1)) ∧ g < w'.heap.size ∧ Below w.heap.size w w' := by
 have cK0 := fun W => tCheck t h W
 rw [hm] at cK0
 have cK := Lib.hid cK0
 have cS0 := fun W hw hb => tSignY t L0 L1 h (may_bare hm) x0 x1 W hw (hB.at hb)
 obtain ⟨sn, hsn⟩ : ∃ z, sgN t L0 L1 = z := ⟨_, rfl⟩
 rw [hsn] at cS0 ⊢
 have cS := Lib.hid cS0
 have hok := Lib.hid h
 have G := Lib.hid hG
 replace hsn := Lib.hid hsn
 clear h hm cK0 cS0 x0 x1 hB hG
 go_enter Tryz.func8, Tryz.ntmps8
 have und := Tryz.underlying37
 have undP := Tryz.underlying31
 go_upto_region 1 with fail
 have H1 := Lib.hid ((HR.refl w).new (txC t) 37)
 generalize w.alloc (.cells (txC t) 37) = w1 at H1 ⊢
 generalize hb1 : w.heap.size = b1 at H1 ⊢
 have hbs := Lib.hid hb1
 clear hb1
 have RT := Lib.hid (H1.out.row (b := b1) (cs := txC t) (t := 37) (by simp))
 go_wp2_with (refine wpList_load_row rfl _ _ rfl b1 rfl 37 (txC t) (0, 0) _ RT.out und rfl sizTX ?_)
 refine (cK.out _).mono ?_
 rintro e w2 ⟨rfl, hb⟩
 have H2 := Lib.hid (H1.out.next hb)
 clear RT hb H1
 have hE := fun W => neN19 W
 have RT := Lib.hid (H2.out.row (b := b1) (cs := txC t) (t := 37) (by simp))
 go_wp2_with (refine wpList_load_row rfl _ _ rfl b1 rfl 37 (txC t) (0, 0) _ RT.out und rfl sizTX ?_)
 refine (cS.out _ (G.out.below H2.out.2) H2.out.2).mono ?_
 rintro e w3 ⟨rfl, hb⟩
 have H3 := Lib.hid (H2.out.next hb)
 clear RT hb H2
 go_upto_region 7 with fail
 refine wp_region_noPanic ?_
 refine wp_region_held_drew (S := fun wq => wq.cell? ⟨b1, 0, none⟩ = some (.int .u64 t.root) ∧ wq.cell? ⟨b1, 1, none⟩ = some (.int .u64 t.inn) ∧ wq.cell? ⟨b1, 2, none⟩ = some (.int .u64 t.out) ∧ HR w wq [(b1, txC t, 37)]) (by kernel_rfl) ?_ (fun hHeld => ?_)
 ·exact ⟨kT b1 t (HR.drew H3.out) 0, kT b1 t (HR.drew H3.out) 1, kT b1 t (HR.drew H3.out) 2, HR.drew H3.out⟩
 refine tk 0 hHeld ?_; refine tk 1 hHeld ?_; refine tk 2 hHeld ?_; refine tk 3 hHeld ?_; refine tk 4 hHeld ?_; refine tk 5 hHeld ?_; refine tk 6 hHeld ?_; refine tk 8 hHeld ?_; refine tk 9 hHeld ?_; refine tk 10 hHeld ?_; refine tk 11 hHeld ?_; refine tk 12 hHeld ?_; refine tk 13 hHeld ?_
 refine st 7 fun K hK => ?_
 go_simp
 refine hK.out _ _ ?_ (fun hHeld => ?_)
 ·exact ⟨kT b1 t (HR.alloc hHeld.2.2.2 _) 0, kT b1 t (HR.alloc hHeld.2.2.2 _) 1, kT b1 t (HR.alloc hHeld.2.2.2 _) 2, (HR.alloc hHeld.2.2.2 _)⟩
 clear hK K
 try simp only [Act.put, List.setIfInBounds_toArray, List.set_cons_zero, List.set_cons_succ]
 refine st 14 fun K hK => ?_
 go_simp
 refine hK.out _ _ ?_ (fun hHeld => ?_)
 ·exact ⟨kT b1 t (HR.alloc hHeld.2.2.2 _) 0, kT b1 t (HR.alloc hHeld.2.2.2 _) 1, kT b1 t (HR.alloc hHeld.2.2.2 _) 2, (HR.alloc hHeld.2.2.2 _)⟩
 clear hK K
 try simp only [Act.put, List.setIfInBounds_toArray, List.set_cons_zero, List.set_cons_succ]
 have hlt3 := H3.out.lt (b := b1) (cs := txC t) (t := 37) (by simp)
 have cC0 := (uConcat (w3.heap.size + 1) 4 4 [⟨w3.heap.size, 0, 4, 4, [t.root.toNat, t.inn.toNat, t.out.toNat, sn]⟩, ⟨b1, 8, 2, 2, [t.e0.toNat, t.e1.toNat]⟩, ⟨b1, 10, 2, 2, [t.m0.toNat, t.m1.toNat]⟩, ⟨b1, 18, 2, 2, [t.a0.toNat, t.a1.toNat]⟩] rfl (by decide) ((w3.drew.alloc (.cells #[.int .u64 t.root, .int .u64 t.inn, .int .u64 t.out, .int .u64 (sn : Int)] 22)).alloc (.cells #[.slice (some ⟨w3.heap.size, 0, none⟩) 4 4, .slice (some ⟨b1, 8, none⟩) 2 2, .slice (some ⟨b1, 10, none⟩) 2 2, .slice (some ⟨b1, 18, none⟩) 2 2] 44)) (by
  have h := Row.new (w3.drew.alloc (.cells #[.int .u64 t.root, .int .u64 t.inn, .int .u64 t.out, .int .u64 (sn : Int)] 22)) #[.slice (some ⟨w3.heap.size, 0, none⟩) 4 4, .slice (some ⟨b1, 8, none⟩) 2 2, .slice (some ⟨b1, 10, none⟩) 2 2, .slice (some ⟨b1, 18, none⟩) 2 2] 44
  rw [World.size_alloc] at h
  exact h) (parts3_ok t hok.out sn _ b1 w3.heap.size (hHeld.2.2.2.row (by simp)) ((Row.new _ _ _).alloc _)) (show 0 < 10 by decide) (show 10 ≤ 1000 by decide))
 rw [show catL [⟨w3.heap.size, 0, 4, 4, [t.root.toNat, t.inn.toNat, t.out.toNat, sn]⟩, ⟨b1, 8, 2, 2, [t.e0.toNat, t.e1.toNat]⟩, ⟨b1, 10, 2, 2, [t.m0.toNat, t.m1.toNat]⟩, ⟨b1, 18, 2, 2, [t.a0.toNat, t.a1.toNat]⟩] = pubL t sn from rfl, show (pubL t sn).length = 10 from rfl] at cC0
 have cC := Lib.hid cC0
 clear cC0
 refine st 15 fun K hK => ?_
 go_simp
 refine (cC.out).mono ?_
 rintro e wc1 ⟨g, c, rfl, hOU, hbc1⟩
 have hU := Lib.hid hOU
 refine hK.out _ _ ?_ (fun hHeld => ?_)
 ·exact ⟨kT b1 t (hHeld.2.2.2.next hbc1) 0, kT b1 t (hHeld.2.2.2.next hbc1) 1, kT b1 t (hHeld.2.2.2.next hbc1) 2, hHeld.2.2.2.next hbc1⟩
 clear hK K
 try simp only [Act.put, List.setIfInBounds_toArray, List.set_cons_zero, List.set_cons_succ]
 refine tk 16 hHeld ?_; refine tk 17 hHeld ?_
 refine wpAnyH_done (by kernel_rfl) (NoPanic.normal ?_) _
 have HL := Lib.hid hHeld.2.2.2
 clear hHeld
 go_wp2_with fail
 go_ret2
 exact ⟨g, c, rfl, hU.out.ul, World.block_lt_of_cell? _ ⟨g, 0 + 0, none⟩ (hU.out.ul 0 (show 0 < 10 by decide)), HL.out.2⟩
set_option maxHeartbeats 4000000 in
theorem lSame13 (g1 c1 g2 c2 n : Nat) (L : List Nat) (hn : L.length = n) (hn2 : n ≤ 1000) (w : World) (h1 : UL w g1 0 L) (h2 : UL w g2 0 L) (l1 : g1 < w.heap.size) (l2 : g2 < w.heap.size) :
  Calls Tryz.prog 12 #[.slice (some ⟨g1, 0, none⟩) n c1, .slice (some ⟨g2, 0, none⟩) n c2] w fun e w' => e = .returned (.bool true) ∧ Below w.heap.size w w' := by
 have hni : (n : Int) ≤ 1000 := by omega
 have U1 := Lib.hid (And.intro h1 l1)
 have U2 := Lib.hid (And.intro h2 l2)
 clear h1 h2 l1 l2
 go_enter Tryz.func12, Tryz.ntmps12
 go_wp2_with fail
 go_loopw [5] (fun q wr => ∃ i : Int, q = .int .i64 i ∧ 0 ≤ i ∧ i ≤ (n : Int) ∧ Hid (HR w wr [])) (fun q _ => ((n : Int) - intOf q).toNat)
 case atStart => exact ⟨0, rfl, by omega, by omega, Lib.hid (HR.refl w)⟩
 case round =>
  obtain ⟨i, rfl, i0, i1, H1⟩ := hrel
  by_cases hi : i < (n : Int)
  ·obtain ⟨v, hv⟩ : ∃ v : Int, ((L.getD i.toNat 0 : Nat) : Int) = v := ⟨_, rfl⟩
   have a1 : w.cell? ⟨g1, i.toNat, none⟩ = some (.int .u64 v) := by have := U1.out.1 i.toNat (by omega); rw [Nat.zero_add, hv] at this; exact this
   have a2 : w.cell? ⟨g2, i.toNat, none⟩ = some (.int .u64 v) := by have := U2.out.1 i.toNat (by omega); rw [Nat.zero_add, hv] at this; exact this
   have b1 := Lib.hid (fun (wq : World) (hb : Below w.heap.size w wq) => (hb.cell (p := ⟨g1, i.toNat, none⟩) U1.out.2).trans a1)
   have b2 := Lib.hid (fun (wq : World) (hb : Below w.heap.size w wq) => (hb.cell (p := ⟨g2, i.toNat, none⟩) U2.out.2).trans a2)
   replace hv := Lib.hid hv
   clear a1 a2
   go_upto_region 6 with fail
   refine wp_region_noPanic ?_
   refine wp_region_held_drew (S := fun wq => wq.cell? ⟨g1, i.toNat, none⟩ = some (.int .u64 v) ∧ wq.cell? ⟨g2, i.toNat, none⟩ = some (.int .u64 v) ∧ HR w wq []) (by kernel_rfl) ?_ (fun hHeld => ?_)
   ·exact ⟨b1.out _ (HR.drew H1.out).2, b2.out _ (HR.drew H1.out).2, HR.drew H1.out⟩
   refine tk 0 hHeld ?_; refine tk 1 hHeld ?_; refine tk 2 hHeld ?_; refine tk 3 hHeld ?_; refine tk 4 hHeld ?_; refine tk 5 hHeld ?_; refine tk 6 hHeld ?_; refine tk 7 hHeld ?_; refine tk 8 hHeld ?_
   refine wpAnyH_done (by kernel_rfl) (NoPanic.normal ?_) _
   have HL := Lib.hid hHeld.2.2
   clear hHeld
   go_wp2_with fail
   go_roundw
   case rel => exact ⟨_, rfl, by omega, by omega, HL⟩
   case measure => simp [intOf]; omega
  ·obtain rfl : i = (n : Int) := by omega
   go_wp2_with fail
   go_ret
   exact ⟨rfl, H1.out.2⟩

end Go.Proofs.YtkfimfjjmdjbdaaGreatDoor
