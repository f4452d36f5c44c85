import Derived.Test.YtallfmiikjmgaaaDoorZWrpress
import Derived.Test.YtallfmiikjmgaaaDoorZWmark
import Derived.Test.YtallfmiikjmgaaaDoorZWcopy
set_option linter.unusedVariables false
set_option linter.unusedSimpArgs false
/- Walks: the reference of layer 5: the digest. -/
namespace Obol
theorem take_pad {P : List Nat} {m : Nat} (h1 : P.length ≤ m) (h2 : m < 8) : (pad8 P).take (m + 1) = (pad8 P).take m ++ [0] := by
  rw [List.take_add_one, List.getElem?_eq_getElem (by rw [pad8_len]; exact h2)]
  have h := pad8_get P m h2
  rw [List.getD_eq_getElem?_getD, List.getElem?_eq_getElem (by rw [pad8_len]; exact h2), List.getD_eq_getElem?_getD, List.getElem?_eq_none h1] at h
  simp only [Option.getD_some, Option.getD_none] at h
  rw [h]
  rfl
theorem take_pad0 {P : List Nat} (h : P.length ≤ 8) : (pad8 P).take P.length = P := by
  refine List.ext_getElem (by rw [List.length_take, pad8_len]; omega) fun i h1 h2 => ?_
  rw [List.getElem_take]
  have h3 := pad8_get P i (by omega)
  rw [List.getD_eq_getElem?_getD, List.getElem?_eq_getElem (by rw [pad8_len]; omega), List.getD_eq_getElem?_getD, List.getElem?_eq_getElem h2] at h3
  exact h3
/-- Bytes, and bytes 0 up to whole blocks. -/
def allL (L : List Nat) : List Nat := L ++ List.replicate (64 * nBlocks L.length - L.length) 0
theorem nBlocks_ge (n : Nat) : n ≤ 64 * nBlocks n ∧ 64 * nBlocks n < n + 64 + (if n = 0 then 1 else 0) ∧ 0 < nBlocks n := by
  unfold nBlocks
  split <;> omega
theorem allL_len (L : List Nat) : (allL L).length = 64 * nBlocks L.length := by
  have := (nBlocks_ge L.length).1
  unfold allL
  rw [List.length_append, List.length_replicate]
  omega
theorem allL_get (L : List Nat) (i : Nat) : (allL L).getD i 0 = L.getD i 0 := by
  unfold allL
  rw [List.getD_eq_getElem?_getD, List.getD_eq_getElem?_getD, List.getElem?_append]
  split
  · rfl
  · rename_i h
    rw [List.getElem?_eq_none (show L.length ≤ i by omega), List.getElem?_replicate]
    split <;> rfl
theorem allL_take {L : List Nat} {m : Nat} (h1 : L.length ≤ m) (h2 : m < 64 * nBlocks L.length) : (allL L).take (m + 1) = (allL L).take m ++ [0] := by
  rw [List.take_add_one, List.getElem?_eq_getElem (by rw [allL_len]; exact h2)]
  have h := allL_get L m
  rw [List.getD_eq_getElem?_getD, List.getElem?_eq_getElem (by rw [allL_len]; exact h2), List.getD_eq_getElem?_getD, List.getElem?_eq_none h1] at h
  simp only [Option.getD_some, Option.getD_none] at h
  rw [h]
  rfl
theorem allL_take0 (L : List Nat) : (allL L).take L.length = L := by
  unfold allL
  rw [List.take_left]
theorem nBlocks_eq {n m : Nat} (_ : n ≤ m) (h2 : m ≤ 64 * nBlocks n) (h3 : m % 64 = 0) (h4 : m ≠ 0) : m = 64 * nBlocks n := by
  by_cases h : n = 0
  · subst h
    have e : nBlocks 0 = 1 := rfl
    omega
  · have e : nBlocks n = (n + 63) / 64 := by unfold nBlocks; rw [if_neg h]
    omega
theorem nBlocks_lt {n m : Nat} (h1 : n ≤ m) (h2 : m ≤ 64 * nBlocks n) (h : m % 64 ≠ 0 ∨ m = 0) : m < 64 * nBlocks n := by
  rcases Nat.lt_or_ge m (64 * nBlocks n) with h3 | h3
  · exact h3
  · have := (nBlocks_ge n).2.2
    omega
theorem nBlocks_last {n j : Nat} (h : j < nBlocks n) : (64 * j + 64 = 64 * nBlocks n) = (n ≤ 64 * (j + 1)) := by
  unfold nBlocks at *
  apply propext
  split at h <;> split <;> omega
end Obol
namespace Go.Proofs.YtallfmiikjmgaaaDoor
open Go.RowKit

theorem bl_block {w : World} {g : Nat} {L : List Nat} (h : BL w g 0 (Obol.allL L)) {j : Nat} (hj : j < Obol.nBlocks L.length) : BL w g (64 * j) (Obol.blockL L j) := fun i hi => by
  rw [Obol.blockL_len] at hi
  have := h (64 * j + i) (by rw [Obol.allL_len]; omega)
  rw [Nat.zero_add, Obol.allL_get] at this
  rw [this, Obol.blockL_get _ _ _ hi]
theorem slice_mid {P : Program} (t e : TypeId) (ht : P.underlying t = some (.slice e)) (he : (P.info? e).map (fun i => (i.zero, i.size, i.bytes)) = some (some (.int .u8 0), 1, 1)) (b o len c l h : Nat) (h1 : l < h) (h2 : h ≤ c) (W : World) :
    (Instr.slice t (.slice (some ⟨b, o, none⟩) len c) (some (.int .i64 (l : Int))) (some (.int .i64 (h : Int))) none).run P W = .ok (.slice (some ⟨b, o + l, none⟩) (h - l) (c - l)) W := by
  have e2 : P.elem t = e := by simp [Program.elem, ht]
  obtain ⟨i, hi, _, hs, _⟩ := info_parts he
  rw [run_slice_lh W t _ _ _ (by rw [e2]; exact ht) .i64 .i64 l h (by omega) (by omega) (by omega), e2]
  simp [Go.sizeOf, typeInfo, hi, hs, Result.andThen, sliced]
  have : c ≠ l := by omega
  simp [this, addP]

theorem WL.other {w : World} {b o c i : Nat} {L : List Nat} {u : Value} (h : WL w b o L) (hne : b ≠ c) : WL (w.setCell ⟨c, i, none⟩ u) b o L := fun j hj => (World.cell?_setCell_other w ⟨c, i, none⟩ ⟨b, o + j, none⟩ u (fun e => hne (by cases e; rfl))).trans (h j hj)
theorem news0 (w : World) : ∀ j u, (U8 [0])[j]? = some u → (w.alloc (.cells #[.int .u8 0] 5)).cell? ((⟨w.heap.size, 0, none⟩ : Addr).add j) = some u := fun j u hu => by
  have hj : j < 1 := by have := (List.getElem?_eq_some_iff.1 hu).1; simpa using this
  obtain rfl : j = 0 := by omega
  rw [addP]
  have := (show Row (w.alloc (.cells #[.int .u8 0] 5)) w.heap.size #[.int .u8 0] 5 from Row.new _ _ _).cell 0 rfl
  rw [this]
  simpa using hu
theorem bl0 (w : World) : BL (w.alloc (.cells #[.int .u8 0] 5)) w.heap.size 0 [0] := (show Row _ _ (u8s [0]) _ from Row.new w _ 5).bl

theorem und8 : Tryd.prog.underlying 92 = some (.array 8 91) := by kernel_rfl
theorem siz8 : (Tryd.prog.info? 92).map (·.size) = some 8 := by kernel_rfl
theorem BL.store {w : World} {b o' c o : Nat} {L : List Nat} {vs : List Value} (h : BL w b o' L) (hne : b ≠ c) : BL (w.setCells c o vs) b o' L := fun k hk => (cell_setCells hne _ _ _).trans (h k hk)
theorem newsW (w : World) (x : Int) (x0 : 0 ≤ x) : ∀ j, j < [x.toNat].length → (w.alloc (.cells #[.int .u32 x] 91)).cell? ((⟨w.heap.size, 0, none⟩ : Addr).add j) = some (.int .u32 (([x.toNat].getD j 0 : Nat) : Int)) := fun j hj => by
  obtain rfl : j = 0 := by simp at hj; omega
  rw [addP]
  have := (show Row (w.alloc (.cells #[.int .u32 x] 91)) w.heap.size #[.int .u32 x] 91 from Row.new _ _ _).cell 0 rfl
  rw [this]
  simp
  omega
/-- Words appended to a slice of the call's own. -/
theorem append_ownW (W : World) (base : Nat) (v : Value) (L M : List Nat) (hown : OwnW W base v L) (ad : Addr) (m c : Nat) (hm : M.length = m) (hnews : ∀ j, j < M.length → W.cell? (ad.add j) = some (.int .u32 ((M.getD j 0 : Nat) : Int)))
    (hlen : L.length + M.length ≤ 100000000) (hbase : base ≤ W.heap.size) :
    ∃ v' W', (∀ ty, (Builtin.append_ #[89, 89] ty #[v, .slice (some ad) m c]).run Tryd.prog W = .ok v' W') ∧ OwnW W' base v' (L ++ M) ∧ Below base W W' := by
  subst hm
  obtain ⟨ti, hti, htz, hts, htb⟩ := info_parts4 info32w
  obtain ⟨v', W', hr, ho, hg, hn⟩ := run_append_own W base 89 0 91 ti (.int .u32 0) 1 4 Tryd.underlying89 hti htz hts htb rfl (by decide) v L.length (U32 L) hown ad M.length c (U32 M) (by simp)
    (fun j u hu => by
      have hj : j < M.length := by have := (List.getElem?_eq_some_iff.1 hu).1; simpa using this
      rw [hnews j hj]
      rw [List.getElem?_map, List.getElem?_eq_getElem hj] at hu
      rw [List.getD_eq_getElem?_getD, List.getElem?_eq_getElem hj]
      simpa using hu) (fun u hu => by obtain ⟨x, _, rfl⟩ := List.mem_map.1 hu; rfl) (by unfold maxLen; omega) (by omega) hbase
  exact ⟨v', W', fun ty => hr, OwnW.app ho rfl, (Below.refl _ _).grown hg (by omega) (fun q hq => (World.ownsRow.lt hown q hq).1)⟩

set_option maxRecDepth 8000 in
set_option maxHeartbeats 4000000 in
theorem r5Sum (s : ByteArray) (hs : s.size ≤ 8) (ao : Option Addr) (len cap : Nat) (L : List Nat) (H : B8 len L) (hl : len ≤ 100000) (w : World) (hn : ao = none → len = 0 ∧ cap = 0) (hc : 0 < len → ∃ b o, ao = some ⟨b, o, none⟩ ∧ BL w b o L) :
    Calls Tryd.prog 43 #[.string s, .slice ao len cap] w fun e w' => ∃ g cap2, e = .returned (.slice (some ⟨g, 0, none⟩) 32 cap2) ∧ OwnB w' w.heap.size (.slice (some ⟨g, 0, none⟩) 32 cap2) (Obol.sumL (strL s) L) ∧ Below w.heap.size w w' := by
  have hlen := Lib.hid H.len
  obtain ⟨v0, w1, hcv, hM0, hb1⟩ := conv_str w s (by omega)
  have hPl := Lib.hid (strL_len s)
  have hPb : Hid (∀ i, (strL s).getD i 0 < 256) := Lib.hid (strL_lt s)
  generalize hP : strL s = P at *
  replace hP := Lib.hid hP
  have h0 := Obol.take_pad0 (P := P) (by rw [hPl.out]; exact hs)
  rw [hPl.out] at h0
  rw [← h0] at hM0
  obtain ⟨g0, cap0, rfl, -, -, -, -, -⟩ := hM0.shape
  have hpl : ((Obol.pad8 P).take s.size).length = s.size := by rw [h0, hPl.out]
  rw [hpl] at hM0 hcv
  replace hM0 := Lib.hid hM0
  replace hb1 := Lib.hid hb1
  clear h0 hpl
  have Hc := Lib.hid hc
  have Hn := Lib.hid hn
  have HL := Lib.hid H
  have hl' : (len : Int) ≤ 100000 := by omega
  clear hc hn H
  go_enter Tryd.func43, Tryd.ntmps43
  go_wp2_with fail
  clear hcv
  go_loopw [5] (fun q1 wr => ∃ (m g c : Nat), q1 = .slice (some ⟨g, 0, none⟩) m c ∧ s.size ≤ m ∧ m ≤ 8 ∧ Hid (OwnM wr w.heap.size (.slice (some ⟨g, 0, none⟩) m c) ((Obol.pad8 P).take m)) ∧ Hid (Below w.heap.size w wr)) (fun q1 _ => 8 - slLen q1)
  case atStart => exact ⟨s.size, g0, cap0, rfl, Nat.le_refl _, hs, hM0, hb1⟩
  case round =>
    clear hM0 hb1
    obtain ⟨m, g, c, rfl, m0, m1, hM, hW⟩ := hrel
    by_cases hm : m < 8
    · have hm' : (m : Int) < 8 := by omega
      have hsz := hW.out.size
      obtain ⟨v', w', hr, hM', hb'⟩ := append_mark (wr.alloc (.cells #[.int .u8 0] 5)) w.heap.size _ _ [0] (hM.out.keep (bAlloc (Below.refl _ wr) _) (Nat.le_refl _)) ⟨wr.heap.size, 0, none⟩ 1 (news0 wr) (by rw [List.length_take, Obol.pad8_len]; simp; omega) (by simp; omega)
      rw [← Obol.take_pad (by rw [hPl.out]; exact m0) hm] at hM'
      have hpl : ((Obol.pad8 P).take (m + 1)).length = m + 1 := by rw [List.length_take, Obol.pad8_len]; omega
      obtain ⟨g', c', rfl, -, -, -, -, -⟩ := hM'.shape
      rw [hpl] at hM' hr
      have HM := Lib.hid hM'
      have HW := Lib.hid ((hW.out.alloc hW.out.size (.cells #[.int .u8 0] 5)).trans hb')
      clear hM' hb' hpl hM hW
      go_wp2_with (at_builtin; refine wpList_appended rfl _ _ _ _ rfl _ _ _ rfl rfl hr ?_)
      go_roundw
      case rel => exact ⟨m + 1, g', c', rfl, by omega, by omega, HM, HW⟩
      case measure => simp [slLen]; omega
    · obtain rfl : m = 8 := by omega
      have hp8 : (Obol.pad8 P).take 8 = Obol.pad8 P := List.take_of_length_le (by rw [Obol.pad8_len]; exact Nat.le_refl _)
      rw [hp8] at hM
      obtain ⟨-, hg1, hg2, -, hbl⟩ := hM.out.at
      have HP8 : Hid (B8 8 (Obol.pad8 P)) := Lib.hid ⟨Obol.pad8_len P, fun i => by
        by_cases hi : i < 8
        · rw [Obol.pad8_get _ _ hi]; exact hPb.out i
        · rw [List.getD_eq_getElem?_getD, List.getElem?_eq_none (by rw [Obol.pad8_len]; omega)]
          decide⟩
      have cW := r5Words g 0 8 c (Obol.pad8 P) 2 (by decide) (by decide) HP8.out (by decide) wr hg2 hbl
      have hW2 : Obol.wordsOf (Obol.pad8 P) 2 = [Obol.wordAt P 0, Obol.wordAt P 4] := by
        show [Obol.wordAt (Obol.pad8 P) 0, Obol.wordAt (Obol.pad8 P) 4] = _
        rw [Obol.word_pad _ _ (by decide), Obol.word_pad _ _ (by decide)]
      rw [hW2] at cW
      replace cW := Lib.hid cW
      clear hbl hW2 hM hp8 hg1 hg2 HP8
      go_wp2_with fail
      refine cW.out.mono ?_
      rintro e w2 ⟨v, rfl, hO2, hb2⟩
      obtain ⟨gw, cw, rfl, hgw1, hgw2, -, hwl⟩ := hO2.size (by simp)
      have B2 := Lib.hid (bThen hW.out hb2 hW.out.size)
      have hgw0 : w.heap.size ≤ gw := Nat.le_trans hW.out.size hgw1
      clear hgw1
      replace hwl := Lib.hid hwl
      clear hb2 hO2 hW cW
      go_wp2_with fail
      refine (r5FirstL _).mono ?_
      rintro e w3 ⟨rfl, hb3⟩
      have B3 := Lib.hid (bThen B2.out hb3 B2.out.size)
      replace hwl := Lib.hid (hwl.out.below hb3 hgw2)
      replace hgw2 := Nat.lt_of_lt_of_le hgw2 hb3.size
      have hx0 : bits .xor .u32 1779033703 16842784 = 1795745351 := by decide +kernel
      clear hb3 B2
      go_wp2_with fail
      have R3 := Lib.hid (Row.new w3 (u32s (Obol.firstL.set 0 1795745351)) 92)
      change Code.wp _ _ _ _ (w3.alloc (.cells (u32s (Obol.firstL.set 0 1795745351)) 92))
      replace B3 := Lib.hid (bAlloc B3.out (.cells (u32s (Obol.firstL.set 0 1795745351)) 92))
      replace hwl := Lib.hid (hwl.out.below (bAlloc (Below.refl _ w3) (.cells (u32s (Obol.firstL.set 0 1795745351)) 92)) hgw2)
      generalize w3.alloc (.cells (u32s (Obol.firstL.set 0 1795745351)) 92) = w4 at R3 B3 hwl ⊢
      have hbhw : w.heap.size ≤ w3.heap.size := Nat.le_trans (Nat.le_of_lt (Nat.lt_of_le_of_lt hgw0 hgw2)) (Nat.le_refl _)
      generalize w3.heap.size = bh at R3 hgw2 hbhw ⊢
      obtain ⟨x6, hx6⟩ : ∃ z : Int, ((Obol.wordAt P 0 : Nat) : Int) = z := ⟨_, rfl⟩
      obtain ⟨x7, hx7⟩ : ∃ z : Int, ((Obol.wordAt P 4 : Nat) : Int) = z := ⟨_, rfl⟩
      have l6 := Obol.wordAt_lt P hPb.out 0
      have l7 := Obol.wordAt_lt P hPb.out 4
      have y6 := xor_eq (p := 528734635) (P := 528734635) (q := x6) rfl hx6 (by decide) l6
      have y7 := xor_eq (p := 1541459225) (P := 1541459225) (q := x7) rfl hx7 (by decide) l7
      obtain ⟨z6, hz6⟩ : ∃ z : Int, bits .xor .u32 528734635 x6 = z := ⟨_, rfl⟩
      obtain ⟨z7, hz7⟩ : ∃ z : Int, bits .xor .u32 1541459225 x7 = z := ⟨_, rfl⟩
      rw [hz6] at y6
      rw [hz7] at y7
      have Y6 := Lib.hid y6
      have Y7 := Lib.hid y7
      have cw0 : w4.cell? ⟨gw, 0, none⟩ = some (.int .u32 x6) := by rw [← hx6]; exact hwl.out 0 (by simp)
      have cw1 : Hid (∀ wq, WL wq gw 0 [Obol.wordAt P 0, Obol.wordAt P 4] → wq.cell? ⟨gw, 1, none⟩ = some (.int .u32 x7)) := Lib.hid (by rw [← hx7]; intro wq h; exact h 1 (by simp))
      have x60 : 0 ≤ x6 := by omega
      have x70 : 0 ≤ x7 := by omega
      clear y6 y7 hx6 hx7 l6 l7 hx0
      have c6 : w4.cell? ⟨bh, 6, none⟩ = some (.int .u32 528734635) := R3.out.cell 6 rfl
      have f6 := R3.out.free 6
      go_cut [] (fun wc => Hid (Row wc bh (u32s ((Obol.firstL.set 0 1795745351).set 6 (528734635 ^^^ Obol.wordAt P 0))) 92) ∧ Hid (WL wc gw 0 [Obol.wordAt P 0, Obol.wordAt P 4]) ∧ Hid (Below w.heap.size w wc))
      case first =>
        go_region
        all_goals (go_wp2_with fail; go_meet)
        all_goals exact ⟨Lib.hid (rowSet R3.out 6 _ Y6.out), Lib.hid (hwl.out.other (by omega)), Lib.hid (bDrew (bSet B3.out (by omega)))⟩
      case' rest =>
        rename World => w5
        obtain ⟨R5, hwl5, B5⟩ := hcut
        clear R3 hwl B3 c6 f6 cw0 Y6 hz6
        have cw0 := cw1.out _ hwl5.out
        have c7 : w5.cell? ⟨bh, 7, none⟩ = some (.int .u32 1541459225) := R5.out.cell 7 rfl
        have f7 := R5.out.free 7
      go_wp2_with fail
      go_cut [] (fun wc => Hid (Row wc bh (u32s (((Obol.firstL.set 0 1795745351).set 6 (528734635 ^^^ Obol.wordAt P 0)).set 7 (1541459225 ^^^ Obol.wordAt P 4))) 92) ∧ Hid (Below w.heap.size w wc))
      case first =>
        go_region
        all_goals (go_wp2_with fail; go_meet)
        all_goals exact ⟨Lib.hid (rowSet R5.out 7 _ Y7.out), Lib.hid (bDrew (bSet B5.out (by omega)))⟩
      case' rest =>
        rename World => w6
        obtain ⟨R6, B6⟩ := hcut
        have R6' : Hid (Row w6 bh (u32s (Obol.stH P L 0)) 92) := R6
        clear R5 hwl5 B5 c7 f7 cw0 Y7 hz7 cw1 R6
        have hz6 := R6'.out.lt
        obtain ⟨ga, ca, w7, hap, hO7, hb7⟩ := append_copy w6 ao len cap L HL.out.len (by omega) Hn.out (fun h => by
          obtain ⟨b, o, h1, h2⟩ := Hc.out h
          exact ⟨b, o, h1, h2.below B6.out (h2.lt (by rw [hlen.out]; exact h))⟩)
        have B7 := Lib.hid (bThen B6.out hb7 B6.out.size)
        have R7 := Lib.hid (R6'.out.below hb7 hz6)
        have O7 := Lib.hid hO7
        clear hO7 hb7 R6'
        have hbsw := B6.out.size
        clear B6
        go_wp2_with (at_builtin; refine wpList_appended rfl _ _ _ _ rfl _ _ _ rfl rfl hap ?_)
        clear hap
        generalize w6.heap.size = bs at O7 hz6 hbsw ⊢
        obtain ⟨N, hN⟩ : ∃ N, 64 * Obol.nBlocks L.length = N := ⟨_, rfl⟩
        have hN1 := Obol.nBlocks_ge L.length
        have hA0 := Obol.allL_take0 L
        rw [hN, hlen.out] at hN1
        have hN2 : len ≤ N := hN1.1
        have hN3 : N ≤ 100065 := by have h := hN1.2.1; split at h <;> omega
        rw [hlen.out] at hA0
        rw [← hA0] at O7
        replace hA0 := Lib.hid hA0
        replace hN := Lib.hid hN
        clear hN1
        go_loopw [8] (fun q1 wr => ∃ (m g c : Nat), q1 = .slice (some ⟨g, 0, none⟩) m c ∧ len ≤ m ∧ m ≤ N ∧ Hid (OwnB wr bs (.slice (some ⟨g, 0, none⟩) m c) ((Obol.allL L).take m)) ∧ Hid (Row wr bh (u32s (Obol.stH P L 0)) 92) ∧ Hid (Below w.heap.size w wr) ∧ bs ≤ wr.heap.size) (fun q1 _ => N - slLen q1)
        case atStart => exact ⟨len, ga, ca, rfl, Nat.le_refl _, hN2, O7, R7, B7, Nat.le_of_lt (Nat.lt_of_le_of_lt (own_ge O7.out) (own_lt O7.out))⟩
        case round =>
          clear O7 R7 B7
          obtain ⟨m, g2, c2, rfl, m0, m1, hO, hR, hB, hbs⟩ := hrel
          by_cases hm : m < N
          · have hlA : ((Obol.allL L).take m).length = m := by rw [List.length_take, Obol.allL_len, hN.out]; omega
            have hlA' : ((Obol.allL L).take (m + 1)).length = m + 1 := by rw [List.length_take, Obol.allL_len, hN.out]; omega
            obtain ⟨v', w', hr, hO', hb', hg', hn'⟩ := append_ownB (wr.alloc (.cells #[.int .u8 0] 5)) bs _ _ [0] (hO.out.below (bAlloc (Below.refl _ wr) _)) ⟨wr.heap.size, 0, none⟩ 1 1 rfl (fun j hj => by rw [addB]; exact bl0 wr j hj) (by rw [hlA]; simp; omega) (by simp; omega)
            rw [← Obol.allL_take (by rw [hlen.out]; exact m0) (by rw [hN.out]; exact hm)] at hO'
            obtain ⟨g', c', rfl⟩ := own_shape hO' (fun h => by have := (hn'.1 h).2; omega)
            rw [hlA'] at hr hO'
            have HO := Lib.hid hO'
            have hbb : Below bs wr w' := ((Below.refl bs wr).alloc hbs _).trans hb'
            have HR := Lib.hid (hR.out.below hbb hz6)
            have HB := Lib.hid (hB.out.trans (hbb.mono hbsw))
            have HS := Nat.le_of_lt (Nat.lt_of_le_of_lt (own_ge hO') (own_lt hO'))
            clear hO' hb' hg' hn' hlA hlA' hO hR hB hbb
            have hm' : (m : Int) ≤ 9223372036854775807 := by omega
            have hmm := Obol.nBlocks_lt (n := L.length) (m := m) (by rw [hlen.out]; exact m0) (by rw [hN.out]; exact m1)
            by_cases h64 : m % 64 = 0
            · have hz : m = 0 := by
                rcases Nat.eq_zero_or_pos m with h | h
                · exact h
                · have := Obol.nBlocks_eq (n := L.length) (m := m) (by rw [hlen.out]; exact m0) (by rw [hN.out]; exact m1) h64 (by omega)
                  rw [hN.out] at this
                  omega
              have e1 : ((m : Int) % 64 != 0) = false := by rw [bne_eq_false_iff_eq]; omega
              have e2 : ((m : Int) == 0) = true := by rw [beq_iff_eq]; omega
              clear hmm h64
              replace hz := Lib.hid hz
              go_wp2_with (at_builtin; refine wpList_appended rfl _ _ _ _ rfl _ _ _ rfl rfl hr ?_)
              go_roundw
              case rel => exact ⟨m + 1, g', c', rfl, by omega, by omega, HO, HR, HB, HS⟩
              case measure => simp [slLen]; omega
            · have e1 : ((m : Int) % 64 != 0) = true := by rw [bne_iff_ne]; omega
              clear hmm h64
              go_wp2_with (at_builtin; refine wpList_appended rfl _ _ _ _ rfl _ _ _ rfl rfl hr ?_)
              go_roundw
              case rel => exact ⟨m + 1, g', c', rfl, by omega, by omega, HO, HR, HB, HS⟩
              case measure => simp [slLen]; omega
          · obtain rfl : m = N := by omega
            have e0 := hN.out
            have e1 : ((m : Int) % 64 != 0) = false := by rw [bne_eq_false_iff_eq]; omega
            have e2 : ((m : Int) == 0) = false := by
              rw [beq_eq_false_iff_ne]
              have := (Obol.nBlocks_ge L.length).2.2
              omega
            clear e0
            have hAN : (Obol.allL L).take m = Obol.allL L := List.take_of_length_le (by rw [Obol.allL_len, hN.out]; exact Nat.le_refl _)
            rw [hAN] at hO
            have hm' : (m : Int) ≤ 9223372036854775807 := by omega
            clear hAN
            go_wp2_with fail
            -- LOOP3
            have hgb := own_ge hO.out
            have hgl0 := own_lt hO.out
            have hLA0 : Hid (BL wr g2 0 (Obol.allL L)) := Lib.hid (own_blz hO.out (by rw [Obol.allL_len, hN.out]))
            have hcap2 := (own_cap hO.out).1
            rw [Obol.allL_len, hN.out] at hcap2
            have hNB := (Obol.nBlocks_ge L.length).2.2
            have hN' := hN.out
            generalize hNb : Obol.nBlocks L.length = nB at hNB hN'
            replace hNb := Lib.hid hNb
            clear hO e1 e2
            go_loopw [9] (fun q1 wr => ∃ j : Nat, q1 = .int .i64 ((64 * j : Nat) : Int) ∧ j ≤ nB ∧ Hid (Row wr bh (u32s (Obol.stH P L j)) 92) ∧ Hid (BL wr g2 0 (Obol.allL L)) ∧ g2 < wr.heap.size ∧ Hid (Below w.heap.size w wr)) (fun q1 _ => (m - intOf q1).toNat)
            case atStart => exact ⟨0, rfl, Nat.zero_le _, hR, hLA0, hgl0, hB⟩
            case round =>
              clear hR hLA0 hgl0 hB
              obtain ⟨j, rfl, hj0, hR, hLA, hgl, hB⟩ := hrel
              obtain ⟨i, hi⟩ : ∃ i : Int, ((64 * j : Nat) : Int) = i := ⟨_, rfl⟩
              rw [hi]
              by_cases hj : j < nB
              · have i0 : 0 ≤ i := by omega
                have i1 : i < (m : Int) := by omega
                have i2 : (0 : Int) ≤ i + 64 := by omega
                have i3 : i + 64 ≤ (c2 : Int) := by omega
                have w64 := wrap_small (x := i + 64) (by omega) (by omega)
                have hsl := fun W => slice_mid (P := Tryd.prog) 42 5 Tryd.underlying42 info8 g2 0 m c2 (64 * j) (64 * j + 64) (by omega) (by omega) W
                rw [hi, show ((64 * j + 64 : Nat) : Int) = i + 64 by omega, Nat.zero_add, show 64 * j + 64 - 64 * j = 64 by omega] at hsl
                have hsl0 : True := trivial
                have hBLj : Hid (BL wr g2 (64 * j) (Obol.blockL L j)) := Lib.hid (bl_block hLA.out (by rw [hNb.out]; exact hj))
                have hla := Obol.nBlocks_last (n := L.length) (j := j) (by rw [hNb.out]; exact hj)
                rw [hNb.out, hlen.out] at hla
                have W8 := Lib.hid (stH_w hPb.out L j)
                have W9 := Lib.hid (stH_w hPb.out L (j + 1))
                have hn : Hid ((u32s (Obol.stH P L j)).size = 8) := Lib.hid (u32s_n W8.out)
                have hn2 : Hid ((u32s (Obol.stH P L (j + 1))).size = 8) := Lib.hid (u32s_n W9.out)
                generalize hH8 : Obol.stH P L j = H8 at hR W8 hn ⊢
                generalize hH9 : Obol.stH P L (j + 1) = H9 at W9 hn2 ⊢
                replace hH8 := Lib.hid hH8
                replace hH9 := Lib.hid hH9
                by_cases hl64 : len ≤ 64 * (j + 1)
                · have e3 : (i + 64 == (m : Int)) = true := by
                    rw [beq_iff_eq]
                    have h : 64 * j + 64 = 64 * nB := hla.mpr hl64
                    omega
                  clear hla
                  have cP := Lib.hid (fun W hlt hBL => r5Press H8 (Obol.blockL L j) W8.out ⟨Obol.blockL_len L j, blockL_lt HL.out j⟩ (len : Int) (by omega) (by omega) true g2 (64 * j) (c2 - 64 * j) W hlt hBL)
                  have eP : Hid (Obol.pressL H8 (Obol.msgL (Obol.blockL L j) 0) ((len : Int)).toNat true = H9) := Lib.hid (by
                    rw [← hH9.out, ← hH8.out, Obol.msg_block, show ((len : Int) : Int).toNat = min (64 * (j + 1)) L.length by rw [hlen.out]; omega, show true = decide (L.length ≤ 64 * (j + 1)) by rw [hlen.out]; simp; omega]
                    rfl)
                  have wu : IntKind.u64.wrap (len : Int) = (len : Int) := by rw [IntKind.wrap_u64]; omega
                  go_wp2_with fail
                  refine wp_region_noPanic ?_
                  refine wp_region_held_drew (S := fun _ => True) (by kernel_rfl) ?_ (fun hHeld => ?_)
                  · exact trivial
                  refine takeH 1 (fun _ _ _ _ _ h => h) (by kernel_rfl) hHeld rfl (by kernel_rfl) (by rfl) (v := ?_) ?_ ?_
                  rotate_left
                  ((intro wz hz; (try dsimp only at hz); go_simp) <;> with_reducible rfl)
                  try simp only [Act.put, List.setIfInBounds_toArray, List.set_cons_zero, List.set_cons_succ]
                  refine takeH 2 (fun _ _ _ _ _ h => h) (by kernel_rfl) hHeld rfl (by kernel_rfl) (by rfl) (v := ?_) ?_ ?_
                  rotate_left
                  ((intro wz hz; (try dsimp only at hz); go_simp) <;> with_reducible rfl)
                  try simp only [Act.put, List.setIfInBounds_toArray, List.set_cons_zero, List.set_cons_succ]
                  refine takeH 3 (fun _ _ _ _ _ h => h) (by kernel_rfl) hHeld rfl (by kernel_rfl) (by rfl) (v := ?_) ?_ ?_
                  rotate_left
                  ((intro wz hz; (try dsimp only at hz); go_simp) <;> with_reducible rfl)
                  try simp only [Act.put, List.setIfInBounds_toArray, List.set_cons_zero, List.set_cons_succ]
                  refine takeH 4 (fun _ _ _ _ _ h => h) (by kernel_rfl) hHeld rfl (by kernel_rfl) (by rfl) (v := ?_) ?_ ?_
                  rotate_left
                  ((intro wz hz; (try dsimp only at hz); go_simp) <;> with_reducible rfl)
                  try simp only [Act.put, List.setIfInBounds_toArray, List.set_cons_zero, List.set_cons_succ]
                  refine takeH 5 (fun _ _ _ _ _ h => h) (by kernel_rfl) hHeld rfl (by kernel_rfl) (by rfl) (v := ?_) ?_ ?_
                  rotate_left
                  ((intro wz hz; (try dsimp only at hz); go_simp) <;> with_reducible rfl)
                  try simp only [Act.put, List.setIfInBounds_toArray, List.set_cons_zero, List.set_cons_succ]
                  refine takeH 6 (fun _ _ _ _ _ h => h) (by kernel_rfl) hHeld rfl (by kernel_rfl) (by rfl) (v := ?_) ?_ ?_
                  rotate_left
                  ((intro wz hz; (try dsimp only at hz); go_simp) <;> with_reducible rfl)
                  try simp only [Act.put, List.setIfInBounds_toArray, List.set_cons_zero, List.set_cons_succ]
                  refine takeH 7 (fun _ _ _ _ _ h => h) (by kernel_rfl) hHeld rfl (by kernel_rfl) (by rfl) (v := ?_) ?_ ?_
                  rotate_left
                  ((intro wz hz; (try dsimp only at hz); go_simp) <;> with_reducible rfl)
                  try simp only [Act.put, List.setIfInBounds_toArray, List.set_cons_zero, List.set_cons_succ]
                  refine takeH 8 (fun _ _ _ _ _ h => h) (by kernel_rfl) hHeld rfl (by kernel_rfl) (by rfl) (v := ?_) ?_ ?_
                  rotate_left
                  ((intro wz hz; (try dsimp only at hz); go_simp) <;> with_reducible rfl)
                  try simp only [Act.put, List.setIfInBounds_toArray, List.set_cons_zero, List.set_cons_succ]
                  refine stepH 0 (by kernel_rfl) rfl (by rfl) (fun K hK => ?_)
                  refine wp_load_mid _ _ rfl bh 0 rfl (u32s H8).toList _ hR.out.drew.range und8 rfl (by rw [siz8]; simp [hn.out]) ?_
                  rw [Array.toArray_toList]
                  refine hK.out _ _ ?_ (fun hHeld => ?_)
                  · exact trivial
                  clear hK K
                  try simp only [Act.put, List.setIfInBounds_toArray, List.set_cons_zero, List.set_cons_succ]
                  refine stepH 9 (by kernel_rfl) rfl (by rfl) (fun K hK => ?_)
                  go_simp
                  refine (cP.out wr.drew hgl (fun i hi => hBLj.out i hi)).mono ?_
                  rintro e wn ⟨rfl, hb⟩
                  rw [eP.out]
                  have hbn : Below wr.heap.size wr wn := bThen (bDrew (Below.refl _ wr)) hb (Nat.le_refl _)
                  refine hK.out _ _ ?_ (fun hHeld => ?_)
                  · exact trivial
                  clear hK K
                  try simp only [Act.put, List.setIfInBounds_toArray, List.set_cons_zero, List.set_cons_succ]
                  have RN := Lib.hid (hR.out.below hbn hR.out.lt)
                  have hth : wn.there bh 0 (u32s H9).size := by rw [hn2.out, ← hn.out]; exact RN.out.there
                  refine stepH 10 (by kernel_rfl) rfl (by rfl) (fun K hK => ?_)
                  refine wp_store_mid _ _ _ rfl bh 0 (u32s H9) rfl rfl hth (by rw [siz8, hn2.out]) (u32s_one H9) ?_
                  refine hK.out _ _ ?_ (fun hHeld => ?_)
                  · exact trivial
                  clear hK K
                  try simp only [Act.put, List.setIfInBounds_toArray, List.set_cons_zero, List.set_cons_succ]
                  refine wpAnyH_done (by kernel_rfl) (NoPanic.normal ?_) _
                  have RZ := Lib.hid (RN.out.store (u32s H9) (by rw [hn2.out, hn.out]))
                  have BZ := Lib.hid (bSetMany (b := bh) (by omega) (u32s H9).toList 0 _ (bThen hB.out hbn hB.out.size))
                  have LZ := Lib.hid (BL.store (vs := (u32s H9).toList) (o := 0) (hLA.out.below hbn hgl) (show g2 ≠ bh by omega))
                  have GZ : g2 < (wn.setCells bh 0 (u32s H9).toList).heap.size := Nat.lt_of_lt_of_le hgl (bSetMany (b := bh) (B := 0) (Nat.zero_le _) (u32s H9).toList 0 _ (hbn.mono (Nat.zero_le _))).size
                  generalize wn.setCells bh 0 (u32s H9).toList = wf at RZ BZ LZ GZ ⊢
                  clear cP eP hHeld hbn hth RN hb hsl hsl0
                  go_wp2_with fail
                  go_roundw
                  case rel => exact ⟨j + 1, by simp; omega, by omega, by rw [hH9.out]; exact RZ, LZ, GZ, BZ⟩
                  case measure => simp [intOf]; omega
                · have e3 : (i + 64 == (m : Int)) = false := by
                    rw [beq_eq_false_iff_ne]
                    have h : ¬ (64 * j + 64 = 64 * nB) := fun h => hl64 (hla.mp h)
                    omega
                  clear hla
                  have cP := Lib.hid (fun W hlt hBL => r5Press H8 (Obol.blockL L j) W8.out ⟨Obol.blockL_len L j, blockL_lt HL.out j⟩ (i + 64) (by omega) (by omega) false g2 (64 * j) (c2 - 64 * j) W hlt hBL)
                  have eP : Hid (Obol.pressL H8 (Obol.msgL (Obol.blockL L j) 0) ((i + 64)).toNat false = H9) := Lib.hid (by
                    rw [← hH9.out, ← hH8.out, Obol.msg_block, show ((i + 64) : Int).toNat = min (64 * (j + 1)) L.length by rw [hlen.out]; omega, show false = decide (L.length ≤ 64 * (j + 1)) by rw [hlen.out]; simp; omega]
                    rfl)
                  have wu : IntKind.u64.wrap (i + 64) = (i + 64) := by rw [IntKind.wrap_u64]; omega
                  go_wp2_with fail
                  refine wp_region_noPanic ?_
                  refine wp_region_held_drew (S := fun _ => True) (by kernel_rfl) ?_ (fun hHeld => ?_)
                  · exact trivial
                  refine takeH 1 (fun _ _ _ _ _ h => h) (by kernel_rfl) hHeld rfl (by kernel_rfl) (by rfl) (v := ?_) ?_ ?_
                  rotate_left
                  ((intro wz hz; (try dsimp only at hz); go_simp) <;> with_reducible rfl)
                  try simp only [Act.put, List.setIfInBounds_toArray, List.set_cons_zero, List.set_cons_succ]
                  refine takeH 2 (fun _ _ _ _ _ h => h) (by kernel_rfl) hHeld rfl (by kernel_rfl) (by rfl) (v := ?_) ?_ ?_
                  rotate_left
                  ((intro wz hz; (try dsimp only at hz); go_simp) <;> with_reducible rfl)
                  try simp only [Act.put, List.setIfInBounds_toArray, List.set_cons_zero, List.set_cons_succ]
                  refine takeH 3 (fun _ _ _ _ _ h => h) (by kernel_rfl) hHeld rfl (by kernel_rfl) (by rfl) (v := ?_) ?_ ?_
                  rotate_left
                  ((intro wz hz; (try dsimp only at hz); go_simp) <;> with_reducible rfl)
                  try simp only [Act.put, List.setIfInBounds_toArray, List.set_cons_zero, List.set_cons_succ]
                  refine takeH 4 (fun _ _ _ _ _ h => h) (by kernel_rfl) hHeld rfl (by kernel_rfl) (by rfl) (v := ?_) ?_ ?_
                  rotate_left
                  ((intro wz hz; (try dsimp only at hz); go_simp) <;> with_reducible rfl)
                  try simp only [Act.put, List.setIfInBounds_toArray, List.set_cons_zero, List.set_cons_succ]
                  refine takeH 5 (fun _ _ _ _ _ h => h) (by kernel_rfl) hHeld rfl (by kernel_rfl) (by rfl) (v := ?_) ?_ ?_
                  rotate_left
                  ((intro wz hz; (try dsimp only at hz); go_simp) <;> with_reducible rfl)
                  try simp only [Act.put, List.setIfInBounds_toArray, List.set_cons_zero, List.set_cons_succ]
                  refine takeH 6 (fun _ _ _ _ _ h => h) (by kernel_rfl) hHeld rfl (by kernel_rfl) (by rfl) (v := ?_) ?_ ?_
                  rotate_left
                  ((intro wz hz; (try dsimp only at hz); go_simp) <;> with_reducible rfl)
                  try simp only [Act.put, List.setIfInBounds_toArray, List.set_cons_zero, List.set_cons_succ]
                  refine takeH 7 (fun _ _ _ _ _ h => h) (by kernel_rfl) hHeld rfl (by kernel_rfl) (by rfl) (v := ?_) ?_ ?_
                  rotate_left
                  ((intro wz hz; (try dsimp only at hz); go_simp) <;> with_reducible rfl)
                  try simp only [Act.put, List.setIfInBounds_toArray, List.set_cons_zero, List.set_cons_succ]
                  refine takeH 8 (fun _ _ _ _ _ h => h) (by kernel_rfl) hHeld rfl (by kernel_rfl) (by rfl) (v := ?_) ?_ ?_
                  rotate_left
                  ((intro wz hz; (try dsimp only at hz); go_simp) <;> with_reducible rfl)
                  try simp only [Act.put, List.setIfInBounds_toArray, List.set_cons_zero, List.set_cons_succ]
                  refine stepH 0 (by kernel_rfl) rfl (by rfl) (fun K hK => ?_)
                  refine wp_load_mid _ _ rfl bh 0 rfl (u32s H8).toList _ hR.out.drew.range und8 rfl (by rw [siz8]; simp [hn.out]) ?_
                  rw [Array.toArray_toList]
                  refine hK.out _ _ ?_ (fun hHeld => ?_)
                  · exact trivial
                  clear hK K
                  try simp only [Act.put, List.setIfInBounds_toArray, List.set_cons_zero, List.set_cons_succ]
                  refine stepH 9 (by kernel_rfl) rfl (by rfl) (fun K hK => ?_)
                  go_simp
                  refine (cP.out wr.drew hgl (fun i hi => hBLj.out i hi)).mono ?_
                  rintro e wn ⟨rfl, hb⟩
                  rw [eP.out]
                  have hbn : Below wr.heap.size wr wn := bThen (bDrew (Below.refl _ wr)) hb (Nat.le_refl _)
                  refine hK.out _ _ ?_ (fun hHeld => ?_)
                  · exact trivial
                  clear hK K
                  try simp only [Act.put, List.setIfInBounds_toArray, List.set_cons_zero, List.set_cons_succ]
                  have RN := Lib.hid (hR.out.below hbn hR.out.lt)
                  have hth : wn.there bh 0 (u32s H9).size := by rw [hn2.out, ← hn.out]; exact RN.out.there
                  refine stepH 10 (by kernel_rfl) rfl (by rfl) (fun K hK => ?_)
                  refine wp_store_mid _ _ _ rfl bh 0 (u32s H9) rfl rfl hth (by rw [siz8, hn2.out]) (u32s_one H9) ?_
                  refine hK.out _ _ ?_ (fun hHeld => ?_)
                  · exact trivial
                  clear hK K
                  try simp only [Act.put, List.setIfInBounds_toArray, List.set_cons_zero, List.set_cons_succ]
                  refine wpAnyH_done (by kernel_rfl) (NoPanic.normal ?_) _
                  have RZ := Lib.hid (RN.out.store (u32s H9) (by rw [hn2.out, hn.out]))
                  have BZ := Lib.hid (bSetMany (b := bh) (by omega) (u32s H9).toList 0 _ (bThen hB.out hbn hB.out.size))
                  have LZ := Lib.hid (BL.store (vs := (u32s H9).toList) (o := 0) (hLA.out.below hbn hgl) (show g2 ≠ bh by omega))
                  have GZ : g2 < (wn.setCells bh 0 (u32s H9).toList).heap.size := Nat.lt_of_lt_of_le hgl (bSetMany (b := bh) (B := 0) (Nat.zero_le _) (u32s H9).toList 0 _ (hbn.mono (Nat.zero_le _))).size
                  generalize wn.setCells bh 0 (u32s H9).toList = wf at RZ BZ LZ GZ ⊢
                  clear cP eP hHeld hbn hth RN hb hsl hsl0
                  go_wp2_with fail
                  go_roundw
                  case rel => exact ⟨j + 1, by simp; omega, by omega, by rw [hH9.out]; exact RZ, LZ, GZ, BZ⟩
                  case measure => simp [intOf]; omega
              · obtain rfl : j = nB := by omega
                have W8 := Lib.hid (stH_w hPb.out L j)
                generalize hH8 : Obol.stH P L j = H8 at hR W8 ⊢
                replace hH8 := Lib.hid hH8
                have i1 : ¬ i < (m : Int) := by omega
                have hbw : w.heap.size ≤ wr.heap.size := hB.out.size
                clear hLA hgl
                go_wp2_with fail
                go_loopw [12, 13] (fun q1 q2 wq => ∃ k : Nat, q2 = .int .i64 (k : Int) ∧ k ≤ 8 ∧ Hid (OwnW wq wr.heap.size q1 (H8.take k)) ∧ Hid (Below wr.heap.size wr wq)) (fun _ q2 _ => (8 - intOf q2).toNat)
                case atStart => exact ⟨0, rfl, by omega, Lib.hid (OwnW.nil _ _), Lib.hid (Below.refl _ _)⟩
                case round =>
                  rename World => wq
                  obtain ⟨k, rfl, hk, hO, hbq⟩ := hrel
                  have RQ := Lib.hid (hR.out.below hbq.out hR.out.lt)
                  have hbs2 := hbq.out.size
                  obtain ⟨i, hi⟩ : ∃ i : Int, (k : Int) = i := ⟨_, rfl⟩
                  rw [hi]
                  by_cases hk8 : k < 8
                  · have i0 : 0 ≤ i := by omega
                    have i1 : i < 8 := by omega
                    obtain ⟨x, ex, x0, x1⟩ := word_at W8.out (i := i) (by omega) (by omega)
                    have d : wq.cell? ⟨bh, i.toNat, none⟩ = some (.int .u32 x) := RQ.out.cell i.toNat ((u32s_at W8.out (by omega) (by omega)).trans (by rw [ex]))
                    have hlk : (H8.take k).length = k := by rw [List.length_take, W8.out.len]; omega
                    obtain ⟨v', w', hr, hO', hb'⟩ := append_ownW (wq.alloc (.cells #[.int .u32 x] 91)) wr.heap.size _ _ [x.toNat] (hO.out.keep (bAlloc (Below.refl _ wq) _) (Nat.le_refl _)) ⟨wq.heap.size, 0, none⟩ 1 1 rfl (newsW wq x x0) (by rw [hlk]; simp; omega) (by simp; omega)
                    have et : H8.take (k + 1) = H8.take k ++ [x.toNat] := by
                      rw [List.take_add_one, List.getElem?_eq_getElem (by rw [W8.out.len]; exact hk8)]
                      rw [List.getD_eq_getElem?_getD, List.getElem?_eq_getElem (by rw [W8.out.len]; omega)] at ex
                      have : H8[k]'(by rw [W8.out.len]; exact hk8) = x.toNat := by
                        have h2 : i.toNat = k := by omega
                        simp only [h2] at ex
                        simp at ex
                        omega
                      rw [this]
                      rfl
                    rw [← et] at hO'
                    have HO := Lib.hid hO'
                    have HQ := Lib.hid (hbq.out.trans (((Below.refl wr.heap.size wq).alloc hbs2 _).trans hb'))
                    clear hO' hb' et hlk hO hbq ex
                    go_wp2_with (at_builtin; refine wpList_appended rfl _ _ _ _ rfl _ _ _ rfl rfl hr ?_)
                    go_roundw
                    case rel => exact ⟨k + 1, by simp; omega, by omega, HO, HQ⟩
                    case measure => simp [intOf]; omega
                  · obtain rfl : k = 8 := by omega
                    have ht8 : H8.take 8 = H8 := List.take_of_length_le (by rw [W8.out.len]; exact Nat.le_refl _)
                    rw [ht8] at hO
                    obtain ⟨gv, cv, rfl, hgv, hgv2, -, hWL⟩ := hO.out.size (by rw [W8.out.len]; decide)
                    rw [W8.out.len]
                    have BQ := Lib.hid (bThen hB.out hbq.out hB.out.size)
                    have cB := Lib.hid (r5Bytes gv 8 cv H8 W8.out (by decide) wq hgv2 hWL)
                    have i1 : ¬ i < 8 := by omega
                    clear hWL hO hbq ht8
                    go_wp2_with fail
                    refine cB.out.mono ?_
                    rintro e wz ⟨v, rfl, hO, hb⟩
                    have eS : Obol.sumL P L = Obol.wordsB H8 := by
                      unfold Obol.sumL
                      rw [hNb.out, hH8.out]
                    have hl32 : (Obol.wordsB H8).length = 32 := by rw [wordsB_len, W8.out.len]
                    obtain ⟨gz, cz, cur, rfl, -, -, -, -, -, -⟩ := hO.size (by rw [hl32]; decide)
                    rw [hl32] at hO ⊢
                    have OZ := Lib.hid (hO.base (base' := w.heap.size) (by omega))
                    have BZ := Lib.hid (bThen BQ.out hb BQ.out.size)
                    clear hO hb
                    go_wp2_with fail
                    go_ret
                    exact ⟨gz, cz, rfl, by rw [eS]; exact OZ.out, BZ.out⟩

end Go.Proofs.YtallfmiikjmgaaaDoor
