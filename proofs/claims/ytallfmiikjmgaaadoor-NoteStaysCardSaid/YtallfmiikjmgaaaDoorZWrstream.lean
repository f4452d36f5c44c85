import Derived.Test.YtallfmiikjmgaaaDoorMF
set_option linter.unusedVariables false
set_option linter.unusedSimpArgs false
/- Walks: the reference of layer 6: a text xor the stream. -/
namespace Obol
def strmS (K N T : List Nat) (n : Nat) : Nat → List Nat
  | 0 => List.replicate n 0
  | j + 1 => (strmS K N T n j).set j (T.getD j 0 ^^^ (blkL K N (1 + j / 64)).getD (j % 64) 0)
theorem strmS_len (K N T : List Nat) (n : Nat) : ∀ j, (strmS K N T n j).length = n
  | 0 => by simp [strmS]
  | j + 1 => by rw [strmS, List.length_set, strmS_len K N T n j]
end Obol
namespace Go.Proofs.YtallfmiikjmgaaaDoor
open Go.RowKit

theorem xor_byte {p q : Int} {P Q : Nat} (hp : ((P : Nat) : Int) = p) (hq : ((Q : Nat) : Int) = q) (p1 : p ≤ 255) (q1 : q ≤ 255) : bits .xor .u8 p q = ((P ^^^ Q : Nat) : Int) := by
  subst hp hq
  exact u8_xor_nat P Q (by omega) (by omega)

set_option maxRecDepth 8000 in
set_option maxHeartbeats 8000000 in
theorem rStream (bk ok ck bn on cn : Nat) (K N : List Nat) (HK : B8 32 K) (HN : B8 12 N) (ao : Option Addr) (len cap : Nat) (T : List Nat) (HT0 : B8 len T) (hl : len ≤ 1000000) (hn0 : ao = none → len = 0 ∧ cap = 0) (w : World) (hbk : bk < w.heap.size) (hbn : bn < w.heap.size) (hBK : BL w bk ok K) (hBN : BL w bn on N)
    (hb0 : 0 < len → ∃ b o, ao = some ⟨b, o, none⟩ ∧ b < w.heap.size ∧ BL w b o T) :
    Calls Tryd.prog 45 #[.slice (some ⟨bk, ok, none⟩) 32 ck, .slice (some ⟨bn, on, none⟩) 12 cn, .slice ao len cap] w fun e w' => e = .returned (.slice (some ⟨w.heap.size, 0, none⟩) len len) ∧ Row w' w.heap.size (u8s (Obol.strmS K N T len len)) 5 ∧ Below w.heap.size w w' := by
  obtain ⟨ti, hti, htz, hts, htb⟩ := info_parts info8
  have hmk : ∀ W : World, (Instr.makeSlice 42 (.int .i64 (len : Int)) (.int .i64 (len : Int))).run Tryd.prog W = .ok (.slice (some ⟨W.heap.size, 0, none⟩) len len) (W.alloc (.cells (u8s (Obol.strmS K N T len 0)) 5)) := fun W => by
    have h := run_make (P := Tryd.prog) W 42 5 ti (.int .u8 0) Tryd.underlying42 hti htz .i64 .i64 (len : Int) (len : Int) (by omega) (by omega) (by rw [htb]; omega) (by omega)
    rw [hts] at h
    rw [h]
    have e : madeCells (Value.int .u8 0).cells len = u8s (Obol.strmS K N T len 0) := Array.toList_inj.1 ((toList_madeCells_one (.int .u8 0) len).trans (by unfold u8s; simp [Obol.strmS]))
    rw [← e]
    simp
  have HT := Lib.hid HT0
  have Hb := Lib.hid hb0
  have cB := Lib.hid (fun (c : Int) (c0 : 0 ≤ c) (c1 : c ≤ 4294967295) W (h : Below w.heap.size w W) => rBlock bk ok ck bn on cn K N HK HN c c0 c1 W (Nat.lt_of_lt_of_le hbk h.size) (Nat.lt_of_lt_of_le hbn h.size) (hBK.below h hbk) (hBN.below h hbn))
  have hll : (len : Int) ≤ 1000000 := by omega
  clear hbk hbn hBK hBN hb0 HT0 hn0
  go_enter Tryd.func45, Tryd.ntmps45
  go_wp2_with fail
  have R0 := Lib.hid (Row.new w (u8s (Obol.strmS K N T len 0)) 5)
  have B0 := Lib.hid (bAlloc (Below.refl _ w) (.cells (u8s (Obol.strmS K N T len 0)) 5))
  generalize w.alloc (.cells (u8s (Obol.strmS K N T len 0)) 5) = w1 at R0 B0 ⊢
  obtain ⟨b0, hb0⟩ : ∃ b, w.heap.size = b := ⟨_, rfl⟩
  rw [hb0] at R0 ⊢
  replace hb0 := Lib.hid hb0
  go_loopw [8, 9] (fun q1 q2 wr => ∃ j : Nat, q2 = .int .i64 (j : Int) ∧ j ≤ len ∧ Hid (j % 64 ≠ 0 → ∃ g cap, q1 = .slice (some ⟨g, 0, none⟩) 64 cap ∧ b0 < g ∧ g < wr.heap.size ∧ BL wr g 0 (Obol.blkL K N (1 + j / 64))) ∧ Hid (Row wr b0 (u8s (Obol.strmS K N T len j)) 5) ∧ Hid (Below w.heap.size w wr)) (fun _ q2 _ => (len - intOf q2).toNat)
  case atStart => exact ⟨0, rfl, by omega, Lib.hid (fun h => absurd rfl h), R0, B0⟩
  case round =>
    clear R0 B0
    rename World => wr
    obtain ⟨j, rfl, hj, hQ, R, B⟩ := hrel
    obtain ⟨i, hi⟩ : ∃ i : Int, (j : Int) = i := ⟨_, rfl⟩
    rw [hi]
    have i0 : 0 ≤ i := by omega
    by_cases hjl : j < len
    · have i1 : i < (len : Int) := by omega
      have hij : Hid (i.toNat = j) := Lib.hid (by omega)
      have hm : i.tmod 64 = i % 64 := Int.tmod_eq_emod_of_nonneg i0
      have hd : i.tdiv 64 = i / 64 := Int.tdiv_eq_ediv_of_nonneg i0
      obtain ⟨bt, ot, rfl, hbt, hBT⟩ := Hb.out (by omega)
      obtain ⟨tv, ct0, et, t0, t1⟩ := (hBT.below B.out hbt).at HT.out (i := i) i0 (by omega)
      by_cases hz : i % 64 = 0
      · have w1 := wrap_small (x := 1 + i / 64) (by omega) (by omega)
        have w2 : IntKind.u32.wrap (1 + i / 64) = 1 + i / 64 := by rw [IntKind.wrap_u32]; omega
        have hzb : (i % 64 == 0) = true := by simp; omega
        have cC := cB.out (1 + i / 64) (by omega) (by omega) wr B.out
        rw [show (1 + i / 64).toNat = 1 + j / 64 by omega] at cC
        replace cC := Lib.hid cC
        clear hQ ct0
        replace et := Lib.hid et
        go_wp2_with fail
        refine cC.out.mono ?_
        rintro e w3 ⟨v, rfl, hOB, hb3⟩
        obtain ⟨g, cg, cur, rfl, hg, hrow, -, -, -, -⟩ := hOB.size (by rw [Obol.blk_len]; decide)
        rw [Obol.blk_len] at hOB ⊢
        have hbl := (show OwnB w3 wr.heap.size (.slice (some ⟨g, 0, none⟩) (Obol.blkL K N (1 + j / 64)).length cg) (Obol.blkL K N (1 + j / 64)) by rw [Obol.blk_len]; exact hOB).bl
        have hgl := hrow.lt
        have hbg : b0 < g := by have := R.out.lt; omega
        have hR3 := R.out.below hb3 R.out.lt
        have hB3 := bThen B.out hb3 B.out.size
        clear hOB hrow hg hb3 cC w1 w2
        obtain ⟨tv2, ct, et2, -, -⟩ := (hBT.below hB3 hbt).at HT.out (i := i) i0 (by omega)
        obtain rfl : tv2 = tv := by rw [et2, et.out]
        obtain ⟨kv, ck, ek, k0, k1⟩ := hbl.at (Go.Proofs.YtallfmiikjmgaaaDoor.blk_b8 K N (1 + j / 64)) (i := i % 64) (by omega) (by omega)
        rw [Nat.zero_add] at ck
        have ck0 := ck
        rw [hz] at ck0
        simp only [Int.toNat_zero] at ck0
        have hx := xor_byte et2.symm ek.symm t1 k1
        obtain ⟨z, hz2⟩ : ∃ z : Int, ((T.getD i.toNat 0 ^^^ (Obol.blkL K N (1 + j / 64)).getD (i % 64).toNat 0 : Nat) : Int) = z := ⟨_, rfl⟩
        rw [hz2] at hx
        have f := hR3.free i.toNat
        have c := hR3.cell i.toNat (u8s_get _ i.toNat (by rw [Obol.strmS_len]; omega))
        have RN := rowSet8 hR3 i.toNat _ hz2.symm
        rw [hij.out, show (i % 64).toNat = j % 64 by omega] at RN
        have RN2 : Hid (Row ((w3.setCell ⟨b0, i.toNat, none⟩ (.int .u8 z)).drew) b0 (u8s (Obol.strmS K N T len (j + 1))) 5) := Lib.hid (by rw [hij.out]; exact RN.drew)
        have BN := Lib.hid (bDrew (bSet (u := .int .u8 z) (o := i.toNat) hB3 (by rw [hb0.out]; exact Nat.le_refl _)))
        have QN : Hid ((j + 1) % 64 ≠ 0 → ∃ g' cap', Value.slice (some ⟨g, 0, none⟩) 64 cg = .slice (some ⟨g', 0, none⟩) 64 cap' ∧ b0 < g' ∧ g' < ((w3.setCell ⟨b0, i.toNat, none⟩ (.int .u8 z)).drew).heap.size ∧ BL ((w3.setCell ⟨b0, i.toNat, none⟩ (.int .u8 z)).drew) g' 0 (Obol.blkL K N (1 + (j + 1) / 64))) := Lib.hid (fun h => ⟨g, cg, rfl, hbg, by simpa using hgl, by
          rw [show (j + 1) / 64 = j / 64 by omega]
          exact fun q hq => (World.cell?_setCell_other w3 ⟨b0, i.toNat, none⟩ ⟨g, 0 + q, none⟩ (.int .u8 z) (fun e => by have e1 := congrArg Addr.block e; simp only at e1; omega)).trans (hbl q hq)⟩)
        replace et2 := Lib.hid et2
        replace ek := Lib.hid ek
        replace hz2 := Lib.hid hz2
        replace hbl := Lib.hid hbl
        clear RN hR3 hB3
        go_wp2_with fail
        go_region
        go_wp2_with fail
        go_roundw
        case rel => exact ⟨j + 1, by simp; omega, by omega, QN, RN2, BN⟩
        case measure => simp [intOf]; omega
      · have hzb : (i % 64 == 0) = false := by simp; omega
        obtain ⟨g, cg, rfl, hbg, hgl, hbl⟩ := hQ.out (by omega)
        have hR3 := R.out
        have hB3 := B.out
        obtain ⟨w3, hw3⟩ : ∃ W : World, wr = W := ⟨_, rfl⟩
        rw [hw3] at hR3 hB3 hgl hbl ct0 R B ⊢
        clear hw3 hQ ct0
        replace et := Lib.hid et
        obtain ⟨tv2, ct, et2, -, -⟩ := (hBT.below hB3 hbt).at HT.out (i := i) i0 (by omega)
        obtain rfl : tv2 = tv := by rw [et2, et.out]
        obtain ⟨kv, ck, ek, k0, k1⟩ := hbl.at (Go.Proofs.YtallfmiikjmgaaaDoor.blk_b8 K N (1 + j / 64)) (i := i % 64) (by omega) (by omega)
        rw [Nat.zero_add] at ck
        have hx := xor_byte et2.symm ek.symm t1 k1
        obtain ⟨z, hz2⟩ : ∃ z : Int, ((T.getD i.toNat 0 ^^^ (Obol.blkL K N (1 + j / 64)).getD (i % 64).toNat 0 : Nat) : Int) = z := ⟨_, rfl⟩
        rw [hz2] at hx
        have f := hR3.free i.toNat
        have c := hR3.cell i.toNat (u8s_get _ i.toNat (by rw [Obol.strmS_len]; omega))
        have RN := rowSet8 hR3 i.toNat _ hz2.symm
        rw [hij.out, show (i % 64).toNat = j % 64 by omega] at RN
        have RN2 : Hid (Row ((w3.setCell ⟨b0, i.toNat, none⟩ (.int .u8 z)).drew) b0 (u8s (Obol.strmS K N T len (j + 1))) 5) := Lib.hid (by rw [hij.out]; exact RN.drew)
        have BN := Lib.hid (bDrew (bSet (u := .int .u8 z) (o := i.toNat) hB3 (by rw [hb0.out]; exact Nat.le_refl _)))
        have QN : Hid ((j + 1) % 64 ≠ 0 → ∃ g' cap', Value.slice (some ⟨g, 0, none⟩) 64 cg = .slice (some ⟨g', 0, none⟩) 64 cap' ∧ b0 < g' ∧ g' < ((w3.setCell ⟨b0, i.toNat, none⟩ (.int .u8 z)).drew).heap.size ∧ BL ((w3.setCell ⟨b0, i.toNat, none⟩ (.int .u8 z)).drew) g' 0 (Obol.blkL K N (1 + (j + 1) / 64))) := Lib.hid (fun h => ⟨g, cg, rfl, hbg, by simpa using hgl, by
          rw [show (j + 1) / 64 = j / 64 by omega]
          exact fun q hq => (World.cell?_setCell_other w3 ⟨b0, i.toNat, none⟩ ⟨g, 0 + q, none⟩ (.int .u8 z) (fun e => by have e1 := congrArg Addr.block e; simp only at e1; omega)).trans (hbl q hq)⟩)
        replace et2 := Lib.hid et2
        replace ek := Lib.hid ek
        replace hz2 := Lib.hid hz2
        replace hbl := Lib.hid hbl
        clear RN hR3 hB3
        go_wp2_with fail
        go_region
        go_wp2_with fail
        go_roundw
        case rel => exact ⟨j + 1, by simp; omega, by omega, QN, RN2, BN⟩
        case measure => simp [intOf]; omega
    · obtain rfl : j = len := by omega
      have i1 : ¬ i < (j : Int) := by omega
      clear hQ
      go_wp2_with fail
      go_ret
      exact ⟨by rw [hb0.out]; rfl, by rw [hb0.out]; exact R.out, B.out⟩

end Go.Proofs.YtallfmiikjmgaaaDoor
