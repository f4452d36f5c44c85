import Derived.Test.YtallfmiikjmgaaaDoorZWrrest
set_option linter.unusedVariables false
set_option linter.unusedSimpArgs false
/- Walks: the reference of layer 6: the mark of bytes. -/
namespace Obol
/-- A list that is laid down place by place. -/
def cpS (n : Nat) (S : List Nat) : Nat → List Nat
  | 0 => List.replicate n 0
  | j + 1 => (cpS n S j).set j (S.getD j 0)
theorem cpS_len (n : Nat) (S : List Nat) : ∀ j, (cpS n S j).length = n
  | 0 => by simp [cpS]
  | j + 1 => by rw [cpS, List.length_set, cpS_len n S j]
theorem cpS_get (n : Nat) (S : List Nat) : ∀ j i, j ≤ n → (cpS n S j).getD i 0 = if i < j then S.getD i 0 else 0
  | 0, i, _ => by
    rw [if_neg (by omega)]
    exact getD_rep n i
  | j + 1, i, hj => by
    show ((cpS n S j).set j _).getD i 0 = _
    rw [getD_set _ _ _ _ (by rw [cpS_len]; omega)]
    by_cases h : j = i
    · subst h; rw [if_pos rfl, if_pos (by omega)]
    · rw [if_neg h, cpS_get n S j i (by omega)]
      by_cases h2 : i < j
      · rw [if_pos h2, if_pos (by omega)]
      · rw [if_neg h2, if_neg (by omega)]
theorem cpS_eq {n : Nat} {S : List Nat} (h : S.length = n) : cpS n S n = S := by
  refine ext_getD (by rw [cpS_len, h]) fun i hi => ?_
  rw [cpS_len] at hi
  rw [cpS_get n S n i (Nat.le_refl _), if_pos hi]
theorem clampL_len (K : List Nat) : (clampL K).length = 16 := by simp [clampL]
theorem pall_lt {h r : List Nat} (hh : ∀ i, h.getD i 0 ≤ 1000) (hr : ∀ i, r.getD i 0 ≤ 255) : vR 256 (pall h r 17) 40 < 256 ^ 40 := by
  have hb := pall_b hh hr 17
  rw [vR_more 256 _ 34 (by rw [hb.len]; exact Nat.le_refl _) 6]
  have key : ∀ n, vR 256 (pall h r 17) n ≤ 69360000 * 256 ^ n := by
    intro n
    induction n with
    | zero => exact Nat.zero_le _
    | succ n ih =>
      have h1 : (pall h r 17).getD n 0 * 256 ^ n ≤ 69360000 * 256 ^ n := Nat.mul_le_mul_right _ (by have := hb.le n; omega)
      rw [vR_succ, Nat.pow_succ]
      omega
  have h2 := key 34
  have e : (256 : Nat) ^ 40 = 281474976710656 * 256 ^ 34 := by decide
  rw [e]
  have h3 : 0 < (256 : Nat) ^ 34 := Nat.pow_pos (by decide)
  generalize (256 : Nat) ^ 34 = E at *
  omega
end Obol
namespace Go.Proofs.YtallfmiikjmgaaaDoor
open Go.RowKit

set_option maxRecDepth 8000 in
set_option maxHeartbeats 8000000 in
theorem rMark (bk ok ck : Nat) (K : List Nat) (HK : B8 32 K) (ao : Option Addr) (len cap : Nat) (B : List Nat) (HB : B8 len B) (hl : len ≤ 1000000000000) (w : World) (hbk : bk < w.heap.size) (hBK : BL w bk ok K) (hS : SlI w.heap.size w ao cap B) :
    Calls Tryd.prog 77 #[.slice (some ⟨bk, ok, none⟩) 32 ck, .slice ao len cap] w fun e w' => ∃ g, e = .returned (.slice (some ⟨g, 0, none⟩) 16 16) ∧ Row w' g (u8s (Obol.markL K B)) 5 ∧ w.heap.size ≤ g ∧ Below w.heap.size w w' := by
  have HK := Lib.hid HK
  have HB := Lib.hid HB
  have CK := Lib.hid hBK
  have CS := Lib.hid hS
  have hkb := Lib.hid hbk
  have hli : (len : Int) ≤ 1000000000000 := by omega
  have hlc : (len : Int) ≤ (cap : Int) := by have := hS.le; rw [HB.out.len] at this; omega
  have HU := Lib.hid HK.out.lt
  clear hBK hS hbk
  have mk : ∀ n : Nat, n ≤ 1000000 → ∀ W, (Instr.makeSlice 110 (.int .i64 (n : Int)) (.int .i64 (n : Int))).run Tryd.prog W = .ok (.slice (some ⟨W.heap.size, 0, none⟩) n n) (W.alloc (.cells (i64s (List.replicate n 0)) 3)) := fun n hn W => make_ints n hn W
  have mk16 : ∀ W, (Instr.makeSlice 110 (.int .i64 16) (.int .i64 16)).run Tryd.prog W = .ok (.slice (some ⟨W.heap.size, 0, none⟩) 16 16) (W.alloc (.cells (i64s (Obol.cpS 16 (Obol.clampL K) 0)) 3)) := fun W => mk 16 (by omega) W
  have mk17 : ∀ W, (Instr.makeSlice 110 (.int .i64 17) (.int .i64 17)).run Tryd.prog W = .ok (.slice (some ⟨W.heap.size, 0, none⟩) 17 17) (W.alloc (.cells (i64s (Obol.cpS 17 [] 0)) 3)) := fun W => mk 17 (by omega) W
  have mk34 : ∀ W, (Instr.makeSlice 110 (.int .i64 34) (.int .i64 34)).run Tryd.prog W = .ok (.slice (some ⟨W.heap.size, 0, none⟩) 34 34) (W.alloc (.cells (i64s (Obol.cpS 34 [] 0)) 3)) := fun W => mk 34 (by omega) W
  clear mk
  replace mk17 := Lib.hid mk17
  replace mk34 := Lib.hid mk34
  go_enter Tryd.func77, Tryd.ntmps77
  go_upto_region 2 with fail
  have R0 := Lib.hid (Row.new w (i64s (Obol.cpS 16 (Obol.clampL K) 0)) 3)
  have B0 := Lib.hid (bAlloc (Below.refl _ w) (.cells (i64s (Obol.cpS 16 (Obol.clampL K) 0)) 3))
  generalize w.alloc (.cells (i64s (Obol.cpS 16 (Obol.clampL K) 0)) 3) = w1 at R0 B0 ⊢
  obtain ⟨br, hbr⟩ : ∃ x, w.heap.size = x := ⟨_, rfl⟩
  rw [hbr] at R0 ⊢
  have hbr2 : Hid (w.heap.size ≤ br) := Lib.hid (Nat.le_of_eq hbr)
  replace hbr := Lib.hid hbr
  clear mk16
  go_wp2_with fail
  go_loopw [6] (fun q1 wr => ∃ j : Nat, q1 = .int .i64 (j : Int) ∧ j ≤ 16 ∧ Hid (Row wr br (i64s (Obol.cpS 16 (Obol.clampL K) j)) 3) ∧ Hid (Below w.heap.size w wr)) (fun q1 _ => (16 - intOf q1).toNat)
  case atStart => exact ⟨0, rfl, by omega, R0, B0⟩
  case round =>
    clear R0 B0
    rename World => wr
    obtain ⟨j, rfl, hj, R, BE⟩ := hrel
    obtain ⟨i, hi⟩ : ∃ i : Int, (j : Int) = i := ⟨_, rfl⟩
    rw [hi]
    have i0 : 0 ≤ i := by omega
    by_cases hj16 : j < 16
    · have i1 : i < 16 := by omega
      have hij : Hid (i.toNat = j) := Lib.hid (by omega)
      have tm : i.tmod 4 = i % 4 := Int.tmod_eq_emod_of_nonneg i0
      obtain ⟨v, ck0, hv, v0, v1⟩ := (CK.out.below BE.out hkb.out).at HK.out (i := i) i0 (by omega)
      have c := R.out.cell i.toNat (i64s_get i.toNat (by rw [Obol.cpS_len]; omega))
      have f := R.out.free i.toNat
      have R1 := Lib.hid (rowSetI R.out i.toNat (K.getD i.toNat 0) hv)
      have B1 := Lib.hid (bSet (u := .int .i64 v) (o := i.toNat) BE.out hbr2.out)
      have hcg := Obol.clampL_get K hj16
      have hN : ∀ z : Nat, z = (Obol.clampL K).getD j 0 → (Obol.cpS 16 (Obol.clampL K) j).set j z = Obol.cpS 16 (Obol.clampL K) (j + 1) := fun z hz => by rw [hz]; rfl
      replace hN := Lib.hid hN
      replace hcg := Lib.hid hcg
      replace hv := Lib.hid hv
      clear R BE
      go_upto_region 6 with fail
      generalize wr.setCell ⟨br, i.toNat, none⟩ (.int .i64 v) = w2 at R1 B1 ⊢
      clear c f ck0
      have c := R1.out.cell i.toNat (v := .int .i64 v) ((i64s_get _ (by rw [List.length_set, Obol.cpS_len]; omega)).trans (by rw [Obol.getD_set _ _ _ _ (by rw [Obol.cpS_len]; omega), if_pos rfl, ← hv.out]))
      have f := R1.out.free i.toNat
      by_cases h3 : j % 4 = 3
      · have b1 : (i % 4 == 3) = true := by simp; omega
        have b2 : (i % 4 == 0) = false := by simp; omega
        have t16 : v.tmod 16 = v % 16 := Int.tmod_eq_emod_of_nonneg v0
        have RN : Hid (Row (w2.setCell ⟨br, i.toNat, none⟩ (.int .i64 (v % 16))) br (i64s (Obol.cpS 16 (Obol.clampL K) (j + 1))) 3) := Lib.hid (by
          have h := rowSetI R1.out i.toNat (K.getD i.toNat 0 % 16) (z := v % 16) (by rw [hv.out]; rfl)
          rw [List.set_set, hij.out, hN.out _ (by rw [hcg.out, if_pos h3])] at h
          rw [hij.out]; exact h)
        have BN := Lib.hid (bSet (u := .int .i64 (v % 16)) (o := i.toNat) B1.out hbr2.out)
        go_wp2_with fail
        go_roundw
        case rel => exact ⟨j + 1, by simp; omega, by omega, RN, BN⟩
        case measure => simp [intOf]; omega
      · have b1 : (i % 4 == 3) = false := by simp; omega
        by_cases h0 : j % 4 = 0 ∧ 0 < j
        · have b2 : (i % 4 == 0) = true := by simp; omega
          have i3 : 0 < i := by omega
          have t4 : v.tdiv 4 = v / 4 := Int.tdiv_eq_ediv_of_nonneg v0
          have wv := wrap_small (x := v / 4 * 4) (by omega) (by omega)
          have RN : Hid (Row (w2.setCell ⟨br, i.toNat, none⟩ (.int .i64 (v / 4 * 4))) br (i64s (Obol.cpS 16 (Obol.clampL K) (j + 1))) 3) := Lib.hid (by
            have h := rowSetI R1.out i.toNat (K.getD i.toNat 0 / 4 * 4) (z := v / 4 * 4) (by rw [hv.out]; rfl)
            rw [List.set_set, hij.out, hN.out _ (by rw [hcg.out, if_neg h3, if_pos h0])] at h
            rw [hij.out]; exact h)
          have BN := Lib.hid (bSet (u := .int .i64 (v / 4 * 4)) (o := i.toNat) B1.out hbr2.out)
          go_wp2_with fail
          go_roundw
          case rel => exact ⟨j + 1, by simp; omega, by omega, RN, BN⟩
          case measure => simp [intOf]; omega
        · have RN : Hid (Row w2 br (i64s (Obol.cpS 16 (Obol.clampL K) (j + 1))) 3) := Lib.hid (by
            have h := R1.out
            rw [hij.out, hN.out _ (by rw [hcg.out, if_neg h3, if_neg h0])] at h
            exact h)
          by_cases hz : j = 0
          · have b2 : (i % 4 == 0) = true := by simp; omega
            have i3 : ¬ 0 < i := by omega
            go_wp2_with fail
            go_roundw
            case rel => exact ⟨j + 1, by simp; omega, by omega, RN, B1⟩
            case measure => simp [intOf]; omega
          · have b2 : (i % 4 == 0) = false := by simp; omega
            go_wp2_with fail
            go_roundw
            case rel => exact ⟨j + 1, by simp; omega, by omega, RN, B1⟩
            case measure => simp [intOf]; omega
    · obtain rfl : j = 16 := by omega
      obtain rfl : i = 16 := by omega
      clear hi
      rw [Obol.cpS_eq (Obol.clampL_len K)] at R
      have mk := mk17.out
      go_upto_region 11 with fail
      have hO0 : OwnI (wr.alloc (.cells (i64s (Obol.cpS 17 [] 0)) 3)) wr.heap.size (.slice (some ⟨wr.heap.size, 0, none⟩) 17 17) (Obol.digs 17 (Obol.macc (Obol.rkN K) B 0)) := by
        have h := OwnI.of (Row.new wr (i64s (Obol.cpS 17 [] 0)) 3) (n := 17) (by rw [Obol.cpS_len]) (Nat.le_refl _) (by omega)
        rw [show Obol.digs 17 (Obol.macc (Obol.rkN K) B 0) = Obol.cpS 17 [] 0 by show Obol.digs 17 0 = List.replicate 17 0; decide]
        exact h
      have O0 := Lib.hid hO0
      have S0 : Hid (Below wr.heap.size wr (wr.alloc (.cells (i64s (Obol.cpS 17 [] 0)) 3))) := Lib.hid (bAlloc (Below.refl _ _) _)
      clear hO0 mk
      generalize wr.alloc (.cells (i64s (Obol.cpS 17 [] 0)) 3) = w3 at O0 S0 ⊢
      obtain ⟨h0, hh0⟩ : ∃ x, wr.heap.size = x := ⟨_, rfl⟩
      have hrl := Lib.hid R.out.lt
      have hrl2 : Hid (w.heap.size ≤ wr.heap.size) := Lib.hid BE.out.size
      have O1 : Hid (OwnI w3 wr.heap.size (.slice (some ⟨h0, 0, none⟩) 17 17) (Obol.digs 17 (Obol.macc (Obol.rkN K) B 0))) := Lib.hid (by rw [← hh0]; exact O0.out)
      rw [hh0]
      replace hh0 := Lib.hid hh0
      clear O0
      go_wp2_with fail
      go_loopw [7, 8] (fun q1 q2 wx => ∃ (j g c : Nat), q1 = .slice (some ⟨g, 0, none⟩) 17 c ∧ q2 = .int .i64 ((16 * j : Nat) : Int) ∧ j ≤ Obol.mblocks len ∧ Hid (OwnI wx wr.heap.size (.slice (some ⟨g, 0, none⟩) 17 c) (Obol.digs 17 (Obol.macc (Obol.rkN K) B j))) ∧ Hid (Below wr.heap.size wr wx)) (fun _ q2 _ => (len + 32 - intOf q2).toNat)
      case atStart => exact ⟨0, h0, 17, rfl, rfl, by omega, O1, S0⟩
      case round =>
        clear O1 S0
        rename World => wx
        obtain ⟨j, g, c, rfl, rfl, hj, O, S⟩ := hrel
        obtain ⟨a, ha⟩ : ∃ i : Int, ((16 * j : Nat) : Int) = i := ⟨_, rfl⟩
        rw [ha]
        have a0 : 0 ≤ a := by omega
        have hmb : Obol.mblocks len = (len + 15) / 16 := rfl
        by_cases hjl : 16 * j < len
        · have a1 : a < (len : Int) := by omega
          obtain ⟨bb, ob, rfl, hbb, hBB⟩ := CS.out.bl (by rw [HB.out.len]; omega)
          have hwa := wrap_small (x := a + 16) (by omega) (by omega)
          replace hBB := Lib.hid hBB
          replace hbb := Lib.hid hbb
          replace hmb := Lib.hid hmb
          obtain ⟨H, hH⟩ : ∃ l, Obol.digs 17 (Obol.macc (Obol.rkN K) B j) = l := ⟨_, rfl⟩
          have hHl : H.length = 17 := by rw [← hH, Obol.digs_len]
          have hHb : Hid (∀ i, H.getD i 0 < 256) := Lib.hid (fun i => by rw [← hH]; exact Obol.digs_lt _ _ i)
          rw [hH] at O
          replace hH := Lib.hid hH
          obtain ⟨n, hn⟩ : ∃ n, Obol.blkW len (16 * j) = n := ⟨_, rfl⟩
          have hn1 : n = min 16 (len - 16 * j) := hn.symm
          have hn16 : n ≤ 16 := by omega
          have hnl : 16 * j + n ≤ len := by omega
          have O2 : Hid (OwnI wx wr.heap.size (.slice (some ⟨g, 0, none⟩) 17 c) (Obol.accS H (B.drop (16 * j)) 0)) := O
          have hnN := Lib.hid hn
          have hn1N := Lib.hid hn1
          clear O hn hn1
          go_upto_block 4 with fail
          go_cut [9] from 64 to 90 (fun q wc => q = .int .i64 (n : Int) ∧ Hid (OwnI wc wr.heap.size (.slice (some ⟨g, 0, none⟩) 17 c) (Obol.accS H (B.drop (16 * j)) n)) ∧ Hid (Below wr.heap.size wr wc))
          case first =>
            go_wp2_with fail
            go_loopw [9] (fun q1 wy => ∃ k : Nat, q1 = .int .i64 (k : Int) ∧ k ≤ n ∧ Hid (OwnI wy wr.heap.size (.slice (some ⟨g, 0, none⟩) 17 c) (Obol.accS H (B.drop (16 * j)) k)) ∧ Hid (Below wr.heap.size wr wy)) (fun q1 _ => (16 - intOf q1).toNat)
            case atStart => exact ⟨0, rfl, by omega, O2, S⟩
            case round =>
              clear O2 S
              rename World => wy
              obtain ⟨k, rfl, hk, O, S⟩ := hrel
              obtain ⟨x, hx⟩ : ∃ x : Int, (k : Int) = x := ⟨_, rfl⟩
              rw [hx]
              have x0 : 0 ≤ x := by omega
              have wax := wrap_small (x := a + x) (by omega) (by omega)
              by_cases hkn : k < n
              · have x1 : x < 16 := by omega
                have x2 : a + x < (len : Int) := by omega
                have x3 : 0 ≤ a + x := by omega
                have hxk : Hid (x.toNat = k) := Lib.hid (by omega)
                obtain ⟨p, hp⟩ : ∃ z : Int, (((Obol.accS H (B.drop (16 * j)) k).getD x.toNat 0 : Nat) : Int) = z := ⟨_, rfl⟩
                have hpl : (Obol.accS H (B.drop (16 * j)) k).getD x.toNat 0 ≤ 255 := by
                  rw [Obol.accS_get _ _ _ _ (by omega), if_neg (by omega)]
                  have := hHb.out x.toNat
                  omega
                have ch := ownI_cell O.out x.toNat (by omega)
                rw [hp] at ch
                have fh := ownI_free O.out x.toNat
                obtain ⟨q, cb, hq, q0, q1⟩ := ((hBB.out.below (S.out.mono hrl2.out |> fun h => BE.out.trans h) hbb.out)).at HB.out (i := a + x) x3 (by omega)
                have w1 := wrap_small (x := p + q) (by omega) (by omega)
                have hqk : (B.drop (16 * j)).getD x.toNat 0 = B.getD (a + x).toNat 0 := by rw [Obol.getD_drop]; congr 1; omega
                have ON : Hid (OwnI (wy.setCell ⟨g, x.toNat, none⟩ (.int .i64 (p + q))).drew wr.heap.size (.slice (some ⟨g, 0, none⟩) 17 c) (Obol.accS H (B.drop (16 * j)) (k + 1))) := Lib.hid (by
                  have h := (ownI_set O.out x.toNat ((Obol.accS H (B.drop (16 * j)) k).getD x.toNat 0 + (B.drop (16 * j)).getD x.toNat 0) (z := p + q) (by rw [hqk, hq, ← hp]; simp)).drew
                  rw [hxk.out] at h ⊢
                  exact h)
                have SN := Lib.hid (bDrew (bSet (u := .int .i64 (p + q)) (o := x.toNat) S.out (ownI_ge O.out)))
                replace hp := Lib.hid hp
                replace hq := Lib.hid hq
                replace hqk := Lib.hid hqk
                clear hpl O S
                go_wp2_with fail
                go_region
                go_wp2_with fail
                go_roundw
                case rel => exact ⟨k + 1, by simp; omega, by omega, ON, SN⟩
                case measure => simp [intOf]; omega
              · have hke : k = n := by omega
                have hxn : x = (n : Int) := by omega
                have OF : Hid (OwnI wy wr.heap.size (.slice (some ⟨g, 0, none⟩) 17 c) (Obol.accS H (B.drop (16 * j)) n)) := by rw [← hke]; exact O
                have hmin := hn1N.out
                clear O
                by_cases x1 : x < 16
                · have x2 : ¬ a + x < (len : Int) := by omega
                  replace hmin := Lib.hid hmin
                  replace hxn := Lib.hid hxn
                  replace hke := Lib.hid hke
                  go_wp2_with fail
                  go_meet
                  exact ⟨by rw [hxn.out], OF, S⟩
                · replace hmin := Lib.hid hmin
                  replace hxn := Lib.hid hxn
                  replace hke := Lib.hid hke
                  go_wp2_with fail
                  go_meet
                  exact ⟨by rw [hxn.out], OF, S⟩
          case' rest =>
            rename World => wz
            obtain ⟨rfl, O, S⟩ := hcut
          clear O2
          obtain ⟨m, hm⟩ : ∃ z : Int, (n : Int) = z := ⟨_, rfl⟩
          rw [hm]
          have m0 : 0 ≤ m := by omega
          have m1 : m < 17 := by omega
          have hmn : Hid (m.toNat = n) := Lib.hid (by omega)
          obtain ⟨v, hv⟩ : ∃ z : Int, (((Obol.accS H (B.drop (16 * j)) n).getD m.toNat 0 : Nat) : Int) = z := ⟨_, rfl⟩
          have hvl : (Obol.accS H (B.drop (16 * j)) n).getD m.toNat 0 ≤ 255 := by
            rw [Obol.accS_get _ _ _ _ (by omega), if_neg (by omega)]
            have := hHb.out m.toNat
            omega
          have w1 := wrap_small (x := v + 1) (by omega) (by omega)
          have cv := ownI_cell O.out m.toNat (by omega)
          rw [hv] at cv
          have fv := ownI_free O.out m.toNat
          have ON := ownI_set O.out m.toNat ((Obol.accS H (B.drop (16 * j)) n).getD m.toNat 0 + 1) (z := v + 1) (by rw [← hv]; simp)
          obtain ⟨A, hA⟩ : ∃ l, Obol.addB H B (16 * j) = l := ⟨_, rfl⟩
          have hAl : A.length = 17 := by rw [← hA, Obol.addB, List.length_set, Obol.accS_len, hHl]
          have hAb : Hid (∀ i, A.getD i 0 ≤ 1000) := Lib.hid (fun i => by rw [← hA]; exact Obol.addB_le hHl hHb.out HB.out.lt _ i)
          have ON2 : Hid (OwnI (wz.setCell ⟨g, m.toNat, none⟩ (.int .i64 (v + 1))) wr.heap.size (.slice (some ⟨g, 0, none⟩) 17 c) A) := Lib.hid (by
            rw [← hA]
            unfold Obol.addB
            rw [HB.out.len, hnN.out, ← hmn.out]
            have h := ON
            rw [hmn.out] at h ⊢
            exact h)
          have SN := Lib.hid (bSet (u := .int .i64 (v + 1)) (o := m.toNat) S.out (ownI_ge O.out))
          have hrv := Lib.hid (Obol.ref_val (B := B) (K := K) (j := j) (h := H) hHl hH.out.symm)
          rw [hA] at hrv
          have hCl := Obol.clampL_len K
          have hCb : Hid (∀ i, (Obol.clampL K).getD i 0 ≤ 255) := Lib.hid (fun i => by have := Obol.clampL_lt HU.out i; omega)
          have hpl := Lib.hid (Obol.pall_lt hAb.out hCb.out)
          have hpb := Lib.hid (fun i => Obol.pall_b hAb.out hCb.out i)
          obtain ⟨Cl, hCl2⟩ : ∃ l, Obol.clampL K = l := ⟨_, rfl⟩
          rw [hCl2] at hrv hCl hCb hpl hpb R
          replace hCl2 := Lib.hid hCl2
          replace hv := Lib.hid hv
          replace hm := Lib.hid hm
          replace hA := Lib.hid hA
          clear ON hvl O S
          go_upto_region 19 with fail
          clear cv fv w1
          generalize wz.setCell ⟨g, m.toNat, none⟩ (.int .i64 (v + 1)) = wa at ON2 SN ⊢
          have mk := mk34.out
          go_upto_region 20 with fail
          clear mk
          have hgl := ownI_lt ON2.out
          have RP := Lib.hid (Row.new wa (i64s (Obol.cpS 34 [] 0)) 3)
          have OP := Lib.hid (ON2.out.below (bAlloc (Below.refl _ wa) (.cells (i64s (Obol.cpS 34 [] 0)) 3)))
          have SP : Hid (Below wr.heap.size wr (wa.alloc (.cells (i64s (Obol.cpS 34 [] 0)) 3))) := Lib.hid (SN.out.alloc SN.out.size _)
          have hsa := Lib.hid SN.out.size
          clear ON2 SN
          generalize wa.alloc (.cells (i64s (Obol.cpS 34 [] 0)) 3) = wb at RP OP SP ⊢
          obtain ⟨bp, hbp⟩ : ∃ x, wa.heap.size = x := ⟨_, rfl⟩
          rw [hbp] at RP hgl hsa ⊢
          replace hbp := Lib.hid hbp
          have RP2 : Hid (Row wb bp (i64s (Obol.pall A Cl 0)) 3) := RP
          clear RP
          go_wp2_with fail
          go_loopw [11] (fun q1 wy => ∃ i : Nat, q1 = .int .i64 (i : Int) ∧ i ≤ 17 ∧ Hid (Row wy bp (i64s (Obol.pall A Cl i)) 3) ∧ Hid (OwnI wy wr.heap.size (.slice (some ⟨g, 0, none⟩) 17 c) A) ∧ Hid (Below wr.heap.size wr wy)) (fun q1 _ => (17 - intOf q1).toNat)
          case atStart => exact ⟨0, rfl, by omega, RP2, OP, SP⟩
          case round =>
            clear RP2 OP SP
            rename World => wy
            obtain ⟨I, rfl, hI, RP, O, S⟩ := hrel
            obtain ⟨i, hi⟩ : ∃ z : Int, (I : Int) = z := ⟨_, rfl⟩
            rw [hi]
            have i0 : 0 ≤ i := by omega
            by_cases hI17 : I < 17
            · have i1 : i < 17 := by omega
              have hiI : Hid (i.toNat = I) := Lib.hid (by omega)
              have hPb := Lib.hid (fun J => Obol.prow_b hAb.out hCb.out (hpb.out I) I J)
              obtain ⟨P0, hP0⟩ : ∃ l, Obol.pall A Cl I = l := ⟨_, rfl⟩
              rw [hP0] at RP hPb
              replace hP0 := Lib.hid hP0
              obtain ⟨x, hx⟩ : ∃ z : Int, ((A.getD i.toNat 0 : Nat) : Int) = z := ⟨_, rfl⟩
              have hxb := hAb.out i.toNat
              have RP2 : Hid (Row wy bp (i64s (Obol.prow A Cl P0 I 0)) 3) := RP
              clear RP
              go_wp2_with fail
              go_loopw [12] (fun q1 wy => ∃ k : Nat, q1 = .int .i64 (k : Int) ∧ k ≤ 16 ∧ Hid (Row wy bp (i64s (Obol.prow A Cl P0 I k)) 3) ∧ Hid (OwnI wy wr.heap.size (.slice (some ⟨g, 0, none⟩) 17 c) A) ∧ Hid (Below wr.heap.size wr wy)) (fun q1 _ => (16 - intOf q1).toNat)
              case atStart => exact ⟨0, rfl, by omega, RP2, O, S⟩
              case round =>
                clear RP2 O S
                rename World => wv
                obtain ⟨k, rfl, hk, RP, O, S⟩ := hrel
                obtain ⟨y, hy⟩ : ∃ z : Int, (k : Int) = z := ⟨_, rfl⟩
                rw [hy]
                have y0 : 0 ≤ y := by omega
                by_cases hk16 : k < 16
                · have y1 : y < 16 := by omega
                  have hyk : Hid (y.toNat = k) := Lib.hid (by omega)
                  have hik : Hid ((i + y).toNat = I + k) := Lib.hid (by omega)
                  have wiy := wrap_small (x := i + y) (by omega) (by omega)
                  have iy0 : 0 ≤ i + y := by omega
                  have iy1 : i + y < 34 := by omega
                  obtain ⟨z, hz⟩ : ∃ z : Int, ((Cl.getD y.toNat 0 : Nat) : Int) = z := ⟨_, rfl⟩
                  have hzb := hCb.out y.toNat
                  obtain ⟨p, hp⟩ : ∃ z : Int, (((Obol.prow A Cl P0 I k).getD (i + y).toNat 0 : Nat) : Int) = z := ⟨_, rfl⟩
                  have hPk := hPb.out k
                  have hpp := hPk.le (i + y).toNat
                  have hml := Nat.mul_le_mul hxb hzb
                  have hm1 := mul_pos hx hz
                  obtain ⟨r, hr⟩ : ∃ r : Int, ((A.getD i.toNat 0 * Cl.getD y.toNat 0 : Nat) : Int) = r := ⟨_, rfl⟩
                  rw [hr] at hm1
                  have wr1 := wrap_small (x := r) (by omega) (by omega)
                  have wr2 := wrap_small (x := p + r) (by omega) (by omega)
                  have ca := ownI_cell O.out i.toNat (by omega)
                  rw [hx] at ca
                  have cr := (R.out.below S.out hrl.out).cell y.toNat (v := .int .i64 z) ((i64s_get _ (by omega)).trans (by rw [hz]))
                  have cp := RP.out.cell (i + y).toNat (v := .int .i64 p) ((i64s_get _ (by rw [hPk.len]; omega)).trans (by rw [hp]))
                  have fp := RP.out.free (i + y).toNat
                  have RN : Hid (Row (wv.setCell ⟨bp, (i + y).toNat, none⟩ (.int .i64 (p + r))).drew bp (i64s (Obol.prow A Cl P0 I (k + 1))) 3) := Lib.hid (by
                    have h := (rowSetI RP.out (i + y).toNat ((Obol.prow A Cl P0 I k).getD (i + y).toNat 0 + A.getD i.toNat 0 * Cl.getD y.toNat 0) (z := p + r) (by rw [← hp, ← hr]; simp)).drew
                    rw [hik.out, hiI.out, hyk.out] at h
                    rw [hik.out]; exact h)
                  have ON : Hid (OwnI (wv.setCell ⟨bp, (i + y).toNat, none⟩ (.int .i64 (p + r))).drew wr.heap.size (.slice (some ⟨g, 0, none⟩) 17 c) A) := Lib.hid ((ownI_other O.out (by omega)).drew)
                  have SN := Lib.hid (bDrew (bSet (u := .int .i64 (p + r)) (o := (i + y).toNat) S.out hsa.out))
                  have hx2 := hx
                  replace hx2 := Lib.hid hx2
                  clear hx
                  replace hz := Lib.hid hz
                  replace hp := Lib.hid hp
                  replace hr := Lib.hid hr
                  clear hzb hPk hpp hml RP O S
                  go_wp2_with fail
                  go_region
                  go_wp2_with fail
                  go_roundw
                  case rel => exact ⟨k + 1, by simp; omega, by omega, RN, ON, SN⟩
                  case measure => simp [intOf]; omega
                · obtain rfl : k = 16 := by omega
                  obtain rfl : y = 16 := by omega
                  clear hy
                  have RN : Hid (Row wv bp (i64s (Obol.pall A Cl (I + 1))) 3) := Lib.hid (by show Row _ _ (i64s (Obol.prow A Cl (Obol.pall A Cl I) I 16)) _; rw [hP0.out]; exact RP.out)
                  clear RP
                  go_wp2_with fail
                  go_roundw
                  case rel => exact ⟨I + 1, by simp; omega, by omega, RN, O, S⟩
                  case measure => simp [intOf]; omega
            · obtain rfl : I = 17 := by omega
              obtain rfl : i = 17 := by omega
              clear hi
              have hPb := (hpb.out 17)
              have cR := rRest bp 0 34 34 (Obol.pall A Cl 17) hPb.len (fun i => Nat.le_trans (hPb.le i) (by omega)) (by omega) hpl.out wy RP.out.lt RP.out.dl
              have hmore : Obol.vR 256 (Obol.pall A Cl 17) 40 = Obol.vR 256 (Obol.pall A Cl 17) 36 := Obol.vR_more 256 _ 36 (by rw [hPb.len]; omega) 4
              rw [hmore, hrv.out] at cR
              replace hmore := Lib.hid hmore
              replace cR := Lib.hid cR
              clear hPb O RP
              go_wp2_with fail
              refine cR.out.mono ?_
              rintro e w9 ⟨g9, c9, rfl, hO9, hb9⟩
              have O9 := Lib.hid (hO9.base S.out.size)
              have S9 := Lib.hid (bThen S.out hb9 S.out.size)
              clear hO9 hb9 cR S
              go_wp2_with fail
              go_roundw
              case rel => exact ⟨j + 1, g9, c9, rfl, by have := ha; simp; omega, by have := hmb.out; omega, O9, S9⟩
              case measure => simp [intOf]; omega
        · have a1 : ¬ a < (len : Int) := by omega
          obtain rfl : j = Obol.mblocks len := by omega
          obtain ⟨S0, hS0⟩ : ∃ l, Obol.digs 17 (Obol.macc (Obol.rkN K) B (Obol.mblocks len)) = l := ⟨_, rfl⟩
          have hSl : S0.length = 17 := by rw [← hS0, Obol.digs_len]
          have hSb : Hid (∀ i, S0.getD i 0 < 256) := Lib.hid (fun i => by rw [← hS0]; exact Obol.digs_lt _ _ i)
          have hML : Hid (Obol.markL K B = Obol.carrL (Obol.accS S0 (K.drop 16) 16) 16) := Lib.hid (by unfold Obol.markL; rw [HB.out.len, hS0])
          rw [hS0] at O
          replace hS0 := Lib.hid hS0
          have hkd : ∀ i, (K.drop 16).getD i 0 = K.getD (16 + i) 0 := fun i => Obol.getD_drop K 16 i
          replace hkd := Lib.hid hkd
          have O2 : Hid (OwnI wx wr.heap.size (.slice (some ⟨g, 0, none⟩) 17 c) (Obol.accS S0 (K.drop 16) 0)) := O
          clear O ha hj
          go_wp2_with fail
          go_loopw [13] (fun q1 wy => ∃ i : Nat, q1 = .int .i64 (i : Int) ∧ i ≤ 16 ∧ Hid (OwnI wy wr.heap.size (.slice (some ⟨g, 0, none⟩) 17 c) (Obol.accS S0 (K.drop 16) i)) ∧ Hid (Below wr.heap.size wr wy)) (fun q1 _ => (16 - intOf q1).toNat)
          case atStart => exact ⟨0, rfl, by omega, O2, S⟩
          case round =>
            clear O2 S
            rename World => wy
            obtain ⟨I, rfl, hI, O, S⟩ := hrel
            obtain ⟨i, hi⟩ : ∃ z : Int, (I : Int) = z := ⟨_, rfl⟩
            rw [hi]
            have i0 : 0 ≤ i := by omega
            by_cases hI16 : I < 16
            · have i1 : i < 16 := by omega
              have hiI : Hid (i.toNat = I) := Lib.hid (by omega)
              have w0 := wrap_small (x := 16 + i) (by omega) (by omega)
              have z0 : 0 ≤ 16 + i := by omega
              have z1 : 16 + i < 32 := by omega
              obtain ⟨p, hp⟩ : ∃ z : Int, (((Obol.accS S0 (K.drop 16) I).getD i.toNat 0 : Nat) : Int) = z := ⟨_, rfl⟩
              have hpl : (Obol.accS S0 (K.drop 16) I).getD i.toNat 0 ≤ 255 := by
                rw [Obol.accS_get _ _ _ _ (by omega), if_neg (by omega)]
                have := hSb.out i.toNat
                omega
              obtain ⟨q, cq, hq, q0, q1⟩ := (CK.out.below (BE.out.trans (S.out.mono hrl2.out)) hkb.out).at HK.out (i := 16 + i) z0 (by omega)
              have w1 := wrap_small (x := p + q) (by omega) (by omega)
              have ch := ownI_cell O.out i.toNat (by omega)
              rw [hp] at ch
              have fh := ownI_free O.out i.toNat
              have ON : Hid (OwnI (wy.setCell ⟨g, i.toNat, none⟩ (.int .i64 (p + q))).drew wr.heap.size (.slice (some ⟨g, 0, none⟩) 17 c) (Obol.accS S0 (K.drop 16) (I + 1))) := Lib.hid (by
                have h := (ownI_set O.out i.toNat ((Obol.accS S0 (K.drop 16) I).getD i.toNat 0 + (K.drop 16).getD i.toNat 0) (z := p + q) (by rw [hkd.out, show 16 + i.toNat = (16 + i).toNat by omega, hq, ← hp]; simp)).drew
                rw [hiI.out] at h ⊢
                exact h)
              have SN := Lib.hid (bDrew (bSet (u := .int .i64 (p + q)) (o := i.toNat) S.out (ownI_ge O.out)))
              replace hp := Lib.hid hp
              replace hq := Lib.hid hq
              clear hpl O S
              go_wp2_with fail
              go_region
              go_wp2_with fail
              go_roundw
              case rel => exact ⟨I + 1, by simp; omega, by omega, ON, SN⟩
              case measure => simp [intOf]; omega
            · obtain rfl : I = 16 := by omega
              obtain rfl : i = 16 := by omega
              clear hi
              obtain ⟨A, hA⟩ : ∃ l, Obol.accS S0 (K.drop 16) 16 = l := ⟨_, rfl⟩
              have hAl : A.length = 17 := by rw [← hA, Obol.accS_len, hSl]
              have hAb : ∀ i, A.getD i 0 ≤ 1099511627776 := fun i => by
                rw [← hA, Obol.accS_get _ _ _ _ (by omega), hkd.out]
                have h1 := hSb.out i
                have h2 := HU.out (16 + i)
                split <;> omega
              rw [hA] at O hML
              replace hA := Lib.hid hA
              have cC := Lib.hid (rCarried g 0 17 c A hAl hAb 16 (by omega) (by omega) wy (ownI_lt O.out) (ownI_dl O.out))
              clear hAb O
              go_wp2_with fail
              refine cC.out.mono ?_
              rintro e w9 ⟨rfl, hR9, hb9⟩
              obtain ⟨C, hC⟩ : ∃ l, Obol.carrL A 16 = l := ⟨_, rfl⟩
              have hCl : C.length = 16 := by rw [← hC, Obol.carrL, Obol.carrS_len]
              have hCb : Hid (∀ i, C.getD i 0 < 256) := Lib.hid (fun i => by rw [← hC, Obol.carrL_eq _ 16 16 (Nat.le_refl _)]; exact Obol.digs_lt _ _ i)
              rw [hC] at hR9 hML
              replace hC := Lib.hid hC
              have R9 := Lib.hid hR9
              have B9 := Lib.hid (bThen (BE.out.trans (S.out.mono hrl2.out)) hb9 (Nat.le_trans hrl2.out S.out.size))
              obtain ⟨bs, hbs⟩ : ∃ z, wy.heap.size = z := ⟨_, rfl⟩
              rw [hbs] at R9 ⊢
              replace hbs := Lib.hid hbs
              clear hR9 hb9 cC S
              have hmk : ∀ W : World, (Instr.makeSlice 42 (.int .i64 16) (.int .i64 16)).run Tryd.prog W = .ok (.slice (some ⟨W.heap.size, 0, none⟩) 16 16) (W.alloc (.cells (u8s (Obol.cpS 16 C 0)) 5)) := fun W => by
                obtain ⟨ti, hti, htz, hts, htb⟩ := info_parts info8
                have h := run_make (P := Tryd.prog) W 42 5 ti (.int .u8 0) Tryd.underlying42 hti htz .i64 .i64 16 16 (by omega) (by omega) (by rw [htb]; omega) (by omega)
                rw [hts] at h
                rw [h]
                have e : madeCells (Value.int .u8 0).cells 16 = u8s (Obol.cpS 16 C 0) := Array.toList_inj.1 ((toList_madeCells_one (.int .u8 0) 16).trans rfl)
                rw [← e]
                rfl
              go_upto_region 34 with fail
              have RO := Lib.hid (Row.new w9 (u8s (Obol.cpS 16 C 0)) 5)
              have RS := Lib.hid (R9.out.alloc (.cells (u8s (Obol.cpS 16 C 0)) 5))
              have BO := Lib.hid (bAlloc B9.out (.cells (u8s (Obol.cpS 16 C 0)) 5))
              have hlt9 := R9.out.lt
              have hsz9 := B9.out.size
              clear R9 B9 hmk
              generalize w9.alloc (.cells (u8s (Obol.cpS 16 C 0)) 5) = wo at RO RS BO ⊢
              obtain ⟨bo, hbo⟩ : ∃ z, w9.heap.size = z := ⟨_, rfl⟩
              rw [hbo] at RO hlt9 hsz9 ⊢
              replace hbo := Lib.hid hbo
              have hso : Hid (bs < bo ∧ w.heap.size ≤ bo) := Lib.hid ⟨hlt9, hsz9⟩
              clear hlt9 hsz9
              go_wp2_with fail
              go_loopw [16] (fun q1 wy => ∃ i : Nat, q1 = .int .i64 (i : Int) ∧ i ≤ 16 ∧ Hid (Row wy bo (u8s (Obol.cpS 16 C i)) 5) ∧ Hid (Row wy bs (i64s C) 3) ∧ Hid (Below w.heap.size w wy)) (fun q1 _ => (16 - intOf q1).toNat)
              case atStart => exact ⟨0, rfl, by omega, RO, RS, BO⟩
              case round =>
                clear RO RS BO
                rename World => wv
                obtain ⟨I, rfl, hI, RO, RS, BO⟩ := hrel
                obtain ⟨i, hi⟩ : ∃ z : Int, (I : Int) = z := ⟨_, rfl⟩
                rw [hi]
                have i0 : 0 ≤ i := by omega
                by_cases hI16 : I < 16
                · have i1 : i < 16 := by omega
                  have hiI : Hid (i.toNat = I) := Lib.hid (by omega)
                  obtain ⟨p, hp⟩ : ∃ z : Int, ((C.getD i.toNat 0 : Nat) : Int) = z := ⟨_, rfl⟩
                  have hpl := hCb.out i.toNat
                  have p0 : 0 ≤ p := by omega
                  have p1 : p ≤ 255 := by omega
                  have pm : p % 256 = p := by omega
                  have cs := RS.out.cell i.toNat (v := .int .i64 p) ((i64s_get _ (by omega)).trans (by rw [hp]))
                  have co := RO.out.cell i.toNat (u8s_get _ i.toNat (by rw [Obol.cpS_len]; omega))
                  have fo := RO.out.free i.toNat
                  have RN : Hid (Row (wv.setCell ⟨bo, i.toNat, none⟩ (.int .u8 p)) bo (u8s (Obol.cpS 16 C (I + 1))) 5) := Lib.hid (by
                    have h := rowSet8 RO.out i.toNat (C.getD i.toNat 0) hp.symm
                    rw [hiI.out] at h ⊢
                    exact h)
                  have RSN : Hid (Row (wv.setCell ⟨bo, i.toNat, none⟩ (.int .u8 p)) bs (i64s C) 3) := Lib.hid (RS.out.other (by have := hso.out; omega))
                  have BN := Lib.hid (bSet (u := .int .u8 p) (o := i.toNat) BO.out hso.out.2)
                  replace hp := Lib.hid hp
                  clear hpl RO RS BO
                  go_wp2_with fail
                  go_roundw
                  case rel => exact ⟨I + 1, by simp; omega, by omega, RN, RSN, BN⟩
                  case measure => simp [intOf]; omega
                · obtain rfl : I = 16 := by omega
                  obtain rfl : i = 16 := by omega
                  clear hi
                  rw [Obol.cpS_eq hCl, ← hML.out] at RO
                  go_wp2_with fail
                  go_ret
                  exact ⟨bo, rfl, RO.out, hso.out.2, BO.out⟩

end Go.Proofs.YtallfmiikjmgaaaDoor
