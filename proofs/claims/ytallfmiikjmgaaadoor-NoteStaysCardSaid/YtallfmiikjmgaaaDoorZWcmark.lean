import Derived.Test.YtallfmiikjmgaaaDoorZWwhole
import Derived.Test.YtallfmiikjmgaaaDoorZWcop8
set_option linter.unusedVariables false
set_option linter.unusedSimpArgs false
/- Walks: package cipher: the mark of bytes. -/
namespace Obol
/-- The key's first half in 17 bytes, of which so many fours are clamped. -/
def clR (K : List Nat) (j : Nat) : List Nat := (List.range 17).map fun i => if i < 4 * j then (clampL K).getD i 0 else if i < 16 then K.getD i 0 else 0
theorem clR_len (K : List Nat) (j : Nat) : (clR K j).length = 17 := by simp [clR]
theorem clR_get (K : List Nat) (j : Nat) {i : Nat} (h : i < 17) : (clR K j).getD i 0 = if i < 4 * j then (clampL K).getD i 0 else if i < 16 then K.getD i 0 else 0 := by
  unfold clR; rw [range_get h]
theorem clampL_get (K : List Nat) {i : Nat} (h : i < 16) : (clampL K).getD i 0 = if i % 4 = 3 then K.getD i 0 % 16 else if i % 4 = 0 ∧ 0 < i then K.getD i 0 / 4 * 4 else K.getD i 0 := by
  unfold clampL; rw [range_get h]
theorem clR_step (K : List Nat) {j : Nat} (hj : j < 4) : (if 0 < j then ((clR K j).set (4 * j + 3) ((clR K j).getD (4 * j + 3) 0 % 16)).set (4 * j) (((clR K j).set (4 * j + 3) ((clR K j).getD (4 * j + 3) 0 % 16)).getD (4 * j) 0 / 4 * 4) else (clR K j).set (4 * j + 3) ((clR K j).getD (4 * j + 3) 0 % 16)) = clR K (j + 1) := by
  have hl := clR_len K j
  have h0 : (clR K j).getD (4 * j) 0 = K.getD (4 * j) 0 := by rw [clR_get K j (by omega), if_neg (by omega), if_pos (by omega)]
  have h3 : (clR K j).getD (4 * j + 3) 0 = K.getD (4 * j + 3) 0 := by rw [clR_get K j (by omega), if_neg (by omega), if_pos (by omega)]
  have hA : ∀ k, k < 17 → ((clR K j).set (4 * j + 3) ((clR K j).getD (4 * j + 3) 0 % 16)).getD k 0 = if k = 4 * j + 3 then K.getD k 0 % 16 else (clR K j).getD k 0 := fun k hk => by
    rw [getD_set _ _ _ _ (by omega), h3]
    by_cases h : k = 4 * j + 3
    · subst h; simp
    · rw [if_neg (Ne.symm h), if_neg h]
  refine ext_getD (by split <;> simp [clR_len]) fun k hk => ?_
  have hk : k < 17 := by
    revert hk
    split <;> simp [clR_len]
  have hB : (if 0 < j then ((clR K j).set (4 * j + 3) ((clR K j).getD (4 * j + 3) 0 % 16)).set (4 * j) (((clR K j).set (4 * j + 3) ((clR K j).getD (4 * j + 3) 0 % 16)).getD (4 * j) 0 / 4 * 4) else (clR K j).set (4 * j + 3) ((clR K j).getD (4 * j + 3) 0 % 16)).getD k 0 = if k = 4 * j + 3 then K.getD k 0 % 16 else if k = 4 * j ∧ 0 < j then K.getD k 0 / 4 * 4 else (clR K j).getD k 0 := by
    split
    · rename_i hp
      rw [getD_set _ _ _ _ (by rw [List.length_set]; omega)]
      by_cases h : k = 4 * j
      · subst h
        rw [if_pos rfl, if_neg (by omega), if_pos ⟨rfl, hp⟩, hA _ (by omega), if_neg (by omega), h0]
      · rw [if_neg (Ne.symm h), hA k hk]
        by_cases h2 : k = 4 * j + 3
        · rw [if_pos h2, if_pos h2]
        · rw [if_neg h2, if_neg h2, if_neg (by omega)]
    · rename_i hp
      rw [hA k hk]
      by_cases h2 : k = 4 * j + 3
      · rw [if_pos h2, if_pos h2]
      · rw [if_neg h2, if_neg h2, if_neg (by omega)]
  rw [hB, clR_get K (j + 1) hk, clR_get K j hk]
  by_cases h1 : k < 4 * j
  · rw [if_neg (show ¬ k = 4 * j + 3 by omega), if_neg (show ¬ (k = 4 * j ∧ 0 < j) by omega), if_pos h1, if_pos (show k < 4 * (j + 1) by omega)]
  · rw [if_neg h1]
    by_cases h2 : k < 4 * (j + 1)
    · rw [if_pos h2, if_pos (show k < 16 by omega), clampL_get K (show k < 16 by omega)]
      by_cases h5 : k = 4 * j + 3
      · rw [if_pos h5, if_pos (show k % 4 = 3 by omega)]
      · rw [if_neg h5, if_neg (show ¬ k % 4 = 3 by omega)]
        by_cases h6 : k = 4 * j ∧ 0 < j
        · rw [if_pos h6, if_pos (show k % 4 = 0 ∧ 0 < k by omega)]
        · rw [if_neg h6, if_neg (show ¬ (k % 4 = 0 ∧ 0 < k) by omega)]
    · rw [if_neg (show ¬ k = 4 * j + 3 by omega), if_neg (show ¬ (k = 4 * j ∧ 0 < j) by omega), if_neg h2]
theorem getD_app (L M : List Nat) (i : Nat) : (L ++ M).getD i 0 = if i < L.length then L.getD i 0 else M.getD (i - L.length) 0 := by
  rw [List.getD_eq_getElem?_getD]
  split
  · rename_i h; rw [List.getElem?_append_left h, ← List.getD_eq_getElem?_getD]
  · rename_i h; rw [List.getElem?_append_right (by omega), ← List.getD_eq_getElem?_getD]
theorem getD_take (L : List Nat) (n i : Nat) : (L.take n).getD i 0 = if i < n then L.getD i 0 else 0 := by
  rw [List.getD_eq_getElem?_getD, List.getElem?_take]
  split
  · rw [← List.getD_eq_getElem?_getD]
  · rfl
theorem getD_drop (L : List Nat) (n i : Nat) : (L.drop n).getD i 0 = L.getD (n + i) 0 := by
  rw [List.getD_eq_getElem?_getD, List.getElem?_drop, ← List.getD_eq_getElem?_getD]
theorem getD_rep (n i : Nat) : (List.replicate n 0).getD i 0 = 0 := by
  rw [List.getD_eq_getElem?_getD, List.getElem?_replicate]
  split <;> rfl
theorem clR_0 {K : List Nat} (h : K.length = 32) : clR K 0 = (K.take 16).take 17 ++ (List.replicate 17 0).drop (min 17 (K.take 16).length) := by
  have e : (K.take 16).length = 16 := by rw [List.length_take]; omega
  have e2 : ((K.take 16).take 17).length = 16 := by rw [List.length_take]; omega
  refine ext_getD (by rw [clR_len, List.length_append, List.length_drop, e2, e]; rfl) fun i hi => ?_
  rw [clR_len] at hi
  rw [clR_get K 0 hi, if_neg (by omega), getD_app, e2, getD_take, getD_take, getD_drop, getD_rep]
  by_cases h16 : i < 16
  · rw [if_pos h16, if_pos h16, if_pos (show i < 17 by omega)]
  · rw [if_neg h16, if_neg h16]
theorem clR_val (K : List Nat) : vR 256 (clR K 4) 17 = rkN K := by
  rw [vR_succ, clR_get K 4 (show 16 < 17 by omega), if_neg (by omega), if_neg (by omega), Nat.zero_mul, Nat.add_zero]
  exact vR_congr 256 16 fun i hi => by rw [clR_get K 4 (by omega), if_pos (by omega)]
theorem clR_lt {K : List Nat} (h : ∀ i, K.getD i 0 < 256) (j i : Nat) : (clR K j).getD i 0 < 256 := by
  by_cases hi : i < 17
  · rw [clR_get K j hi]
    split
    · exact clampL_lt h i
    · split
      · exact h i
      · decide
  · rw [getD_out (by rw [clR_len]; omega)]; decide
theorem xblk_set {B : List Nat} {at' : Nat} (h : at' < B.length) : ((B.drop at').take 16 ++ (List.replicate 17 0).drop (min 16 (B.drop at').length)).set (blkW B.length at') 1 = xblk B at' := by
  have hw : blkW B.length at' = min 16 (B.drop at').length := by rw [List.length_drop]; rfl
  have hl : ((B.drop at').take 16).length = blkW B.length at' := by rw [List.length_take, hw]
  have h16 : blkW B.length at' ≤ 16 := Nat.min_le_left ..
  refine ext_getD (by rw [List.length_set, xblk_len h, List.length_append, hl, ← hw, List.length_drop, List.length_replicate]; omega) fun i hi => ?_
  have hi : i < 17 := by
    rw [List.length_set, List.length_append, hl, ← hw, List.length_drop, List.length_replicate] at hi; omega
  rw [getD_set _ _ _ _ (by rw [List.length_append, hl, ← hw, List.length_drop, List.length_replicate]; omega), xblk_get, getD_app, hl, getD_take, getD_drop, getD_drop, getD_rep]
  by_cases h1 : i < blkW B.length at'
  · rw [if_neg (show ¬ blkW B.length at' = i by omega), if_pos h1, if_pos h1, if_pos (show i < 16 by omega)]
  · rw [if_neg h1, if_neg h1]
    by_cases h2 : i = blkW B.length at'
    · rw [if_pos h2.symm, if_pos h2]
    · rw [if_neg (Ne.symm h2), if_neg h2]
end Obol
namespace Go.Proofs.YtallfmiikjmgaaaDoor
open Go.RowKit

theorem and_15 {n : Int} (h0 : 0 ≤ n) (h1 : n ≤ 255) : bits .and .u8 n 15 = n % 16 := by
  obtain ⟨N, rfl⟩ := Int.eq_ofNat_of_zero_le h0
  have e : (15 : Int) = ((2 ^ 4 - 1 : Nat) : Int) := by decide
  rw [e, u8_and_nat _ _ (by omega) (by decide), Nat.and_two_pow_sub_one_eq_mod]
  omega
theorem and252 : ∀ N : Fin 256, N.val &&& 252 = N.val / 4 * 4 := by decide +kernel
theorem and_252 {n : Int} (h0 : 0 ≤ n) (h1 : n ≤ 255) : bits .and .u8 n 252 = n / 4 * 4 := by
  obtain ⟨N, rfl⟩ := Int.eq_ofNat_of_zero_le h0
  have e : (252 : Int) = ((252 : Nat) : Int) := rfl
  have h := and252 ⟨N, by omega⟩
  simp only at h
  rw [e, u8_and_nat _ _ (by omega) (by decide), h]
  omega
theorem HR.row8 {w w1 : World} {rs : List (Nat × Array Value × TypeId)} {k : Nat} {z : Array Value} {t : TypeId} (h : HR w w1 ((k, z, t) :: rs)) (hne : ∀ r ∈ rs, r.1 ≠ k) (hk : w.heap.size ≤ k) (cs : Array Value) : HR w (w1.setRow k cs) ((k, cs, t) :: rs) :=
  ⟨fun r hm => by
    rcases List.mem_cons.1 hm with rfl | hm
    · exact setRow_row (h.1 (_, z, _) (List.mem_cons_self ..))
    · exact setRow_keep (h.1 r (List.mem_cons_of_mem _ hm)) (hne r hm), bSetRow h.2 hk _⟩

theorem qMarkN (a b : Option Addr) (m n c d : Nat) (h : m ≠ 32) (w : World) :
    Calls Tryd.prog 94 #[.slice a m c, .slice b n d] w fun e w' => e = .returned (.tuple #[.slice none 0 0, errC 1]) ∧ w' = w := by
  have h3 : ((m : Int) != 32) = true := by simp; omega
  clear h
  go_enter Tryd.func94, Tryd.ntmps94
  go_wp2_with fail
  go_ret2
  exact ⟨rfl, rfl⟩

set_option maxRecDepth 8000 in
set_option maxHeartbeats 8000000 in
theorem qMark (bk ok ck : Nat) (K : List Nat) (HK : B8 32 K) (hck : 32 ≤ ck) (ao : Option Addr) (len cap : Nat) (B : List Nat) (HB : B8 len B) (hl : len ≤ 1000000000000) (w : World) (hbk : bk < w.heap.size) (hBK : BL w bk ok K) (hS : SlI w.heap.size w ao cap B) :
    Calls Tryd.prog 94 #[.slice (some ⟨bk, ok, none⟩) 32 ck, .slice ao len cap] w fun e w' => ∃ g, e = .returned (.tuple #[.slice (some ⟨g, 0, none⟩) 16 16, .nilIface]) ∧ Row w' g (u8s (Obol.markL K B)) 5 ∧ w.heap.size ≤ g ∧ Below w.heap.size w w' := by
  have HK := Lib.hid HK
  have HB := Lib.hid HB
  have CK := Lib.hid hBK
  have CS := Lib.hid hS
  have hkb := Lib.hid hbk
  have hli : (len : Int) ≤ 1000000000000 := by omega
  have hlc : (len : Int) ≤ (cap : Int) := by have := hS.le; rw [HB.out.len] at this; omega
  clear hBK hS hbk
  have hkl : (K.take 16).length = 16 := by rw [List.length_take, HK.out.len]; rfl
  have hck2 : (16 : Int) ≤ (ck : Int) := by omega
  have HU := Lib.hid HK.out.lt
  go_enter Tryd.func94, Tryd.ntmps94
  go_upto_region 4 with fail
  have H0 := Lib.hid ((HR.refl w).new (u8s (zs 17)) 126)
  change Code.wp _ _ _ _ (w.alloc (.cells (u8s (zs 17)) 126))
  generalize w.alloc (.cells (u8s (zs 17)) 126) = w1 at H0 ⊢
  obtain ⟨b0, h0⟩ : ∃ x, w.heap.size = x := ⟨_, rfl⟩
  have ho : Hid (w.heap.size ≤ b0) := Lib.hid (by omega)
  rw [h0]
  replace H0 : Hid (HR w w1 [(b0, u8s (zs 17), 126)]) := Lib.hid (by rw [← h0]; exact H0.out)
  replace h0 := Lib.hid h0
  have hcp := copy8 w1.drew b0 (zs 17) 126 (H0.out.drew.row (by simp)) 17 17 bk ok ck (K.take 16) (by simp) (fun i hi => by
    rw [hkl] at hi
    have h := (CK.out.below H0.out.drew.2 hkb.out) i (by rw [HK.out.len]; omega)
    rw [h, List.getD_eq_getElem?_getD, List.getD_eq_getElem?_getD, List.getElem?_take, if_pos hi])
  rw [← Obol.clR_0 HK.out.len, hkl] at hcp
  have H1 := Lib.hid (H0.out.drew.row8 (by simp) ho.out (u8s (Obol.clR K 0)))
  clear hkl H0
  go_region
  clear hcp
  generalize w1.drew.setRow b0 (u8s (Obol.clR K 0)) = w2 at H1 ⊢
  go_wp2_with fail
  go_loopw [27] (fun q1 wr => ∃ j : Nat, q1 = .int .i64 (j : Int) ∧ j ≤ 4 ∧ Hid (HR w wr [(b0, u8s (Obol.clR K j), 126)])) (fun q1 _ => (4 - intOf q1).toNat)
  case atStart => exact ⟨0, rfl, by omega, H1⟩
  case round =>
    clear H1
    rename World => wr
    obtain ⟨j, rfl, hj, H⟩ := hrel
    obtain ⟨i, hi⟩ : ∃ i : Int, (j : Int) = i := ⟨_, rfl⟩
    rw [hi]
    have i0 : 0 ≤ i := by omega
    by_cases hj4 : j < 4
    · have i1 : i < 4 := by omega
      have hst := Lib.hid (Obol.clR_step K hj4)
      obtain ⟨L, hL⟩ : ∃ x, Obol.clR K j = x := ⟨_, rfl⟩
      have hLl := Obol.clR_len K j
      have hLb := Obol.clR_lt HU.out j
      rw [hL] at hLl hLb hst H
      have e3 : (4 * i + 3).toNat = 4 * j + 3 := by omega
      have e0 : (4 * i).toNat = 4 * j := by omega
      obtain ⟨x, hx⟩ : ∃ x : Int, ((L.getD (4 * i + 3).toNat 0 : Nat) : Int) = x := ⟨_, rfl⟩
      have hx1 := hLb (4 * i + 3).toNat
      have x0 : 0 ≤ x := by omega
      have x1 : x ≤ 255 := by omega
      have c := H.out.cell (b := b0) (cs := u8s L) (t := 126) (by simp) (4 * i + 3).toNat (v := .int .u8 x) ((u8s_get _ _ (by omega)).trans (by rw [hx]))
      have f := H.out.free (b := b0) (cs := u8s L) (t := 126) (by simp) (4 * i + 3).toNat
      have ha := and_15 x0 x1
      have hw4 := wrap_small (x := 4 * i) (by omega) (by omega)
      have hw3 := wrap_small (x := 4 * i + 3) (by omega) (by omega)
      have HN := Lib.hid (HR.set8 H.out (by simp) ho.out (4 * i + 3).toNat (L.getD (4 * i + 3).toNat 0 % 16) (z := x % 16) (by rw [← hx]; rfl))
      obtain ⟨M, hM⟩ : ∃ l, L.set (4 * i + 3).toNat (L.getD (4 * i + 3).toNat 0 % 16) = l := ⟨_, rfl⟩
      have hMl : M.length = 17 := by rw [← hM, List.length_set, hLl]
      have hM2 : Hid (L.set (4 * j + 3) (L.getD (4 * j + 3) 0 % 16) = M) := Lib.hid (by rw [← e3]; exact hM)
      have hMb : ∀ k, M.getD k 0 < 256 := fun k => by
        rw [← hM, Obol.getD_set _ _ _ _ (by omega)]
        split
        · omega
        · exact hLb k
      rw [hM] at HN
      replace hx := Lib.hid hx
      replace hL := Lib.hid hL
      clear hM hx1 hLb H
      by_cases hj0 : 0 < j
      · have i2 : 0 < i := by omega
        obtain ⟨y, hy⟩ : ∃ x : Int, ((M.getD (4 * i).toNat 0 : Nat) : Int) = x := ⟨_, rfl⟩
        have hy1 := hMb (4 * i).toNat
        have y0 : 0 ≤ y := by omega
        have y1 : y ≤ 255 := by omega
        have d := HN.out.cell (b := b0) (cs := u8s M) (t := 126) (by simp) (4 * i).toNat (v := .int .u8 y) ((u8s_get _ _ (by omega)).trans (by rw [hy]))
        have g := HN.out.free (b := b0) (cs := u8s M) (t := 126) (by simp) (4 * i).toNat
        have hb := and_252 y0 y1
        have HO := HR.set8 HN.out (by simp) ho.out (4 * i).toNat (M.getD (4 * i).toNat 0 / 4 * 4) (z := y / 4 * 4) (by rw [← hy]; rfl)
        have hE : Hid (M.set (4 * i).toNat (M.getD (4 * i).toNat 0 / 4 * 4) = Obol.clR K (j + 1)) := Lib.hid (by
          have h := hst.out
          rw [if_pos hj0, hM2.out] at h
          rw [e0]; exact h)
        rw [hE.out] at HO
        replace HO := Lib.hid HO
        replace hy := Lib.hid hy
        replace e3 := Lib.hid e3
        replace e0 := Lib.hid e0
        clear hy1 hMb HN
        go_wp2_with fail
        go_roundw
        case rel => exact ⟨j + 1, by simp; omega, by omega, HO⟩
        case measure => simp [intOf]; omega
      · have i2 : ¬ 0 < i := by omega
        have hE : M = Obol.clR K (j + 1) := by
          have h := hst.out
          rw [if_neg hj0, hM2.out] at h
          exact h
        rw [hE] at HN
        replace hE := Lib.hid hE
        replace e3 := Lib.hid e3
        replace e0 := Lib.hid e0
        clear hMb
        go_wp2_with fail
        go_roundw
        case rel => exact ⟨j + 1, by simp; omega, by omega, HN⟩
        case measure => simp [intOf]; omega
    · obtain rfl : j = 4 := by omega
      have i1 : ¬ i < 4 := by omega
      have hlv := Lib.hid (Obol.limbsN_val (Obol.clR_lt HU.out 4) (Obol.clR_len K 4) (by rw [Obol.clR_val]; have := Obol.rkN_lt HU.out; omega))
      have cL := Lib.hid (qLimbs b0 (Obol.clR K 4) ⟨Obol.clR_len K 4, Obol.clR_lt HU.out 4⟩ _ (H.out.row (b := b0) (cs := u8s (Obol.clR K 4)) (t := 126) (by simp)))
      obtain ⟨r, hr⟩ : ∃ x, Obol.limbsN (Obol.clR K 4) = x := ⟨_, rfl⟩
      rw [hr] at cL hlv
      have hr1 : Hid (Obol.valL r = Obol.rkN K) := Lib.hid (by rw [← Obol.clR_val]; exact hlv.out.1)
      have hr2 := Lib.hid hlv.out.2
      replace hr := Lib.hid hr
      go_wp2_with fail
      refine cL.out.mono ?_
      rintro e w3 ⟨rfl, hb3⟩
      have H3 := Lib.hid ((H.out.next hb3).sub (qs := []) (by simp))
      clear hb3 cL hlv H hi i0 i1 hr
      have hn : (u64s r).size = 5 := by rw [u64s_n, hr2.out.len]
      have h1 : (u64s r).all (·.oneCell') = true := u64s_one r
      have hth : (w3.alloc (.cells (u64s [0, 0, 0, 0, 0]) 127)).there w3.heap.size 0 (u64s r).size := by rw [hn, ← (show (u64s [0, 0, 0, 0, 0]).size = 5 from rfl)]; exact (Row.new _ _ _).there
      have H4 := Lib.hid (H3.out.laidL (u64s [0, 0, 0, 0, 0]) (u64s r) 127 (by rw [hn]; rfl))
      have hsz := H3.out.2.size
      clear H3
      go_upto_region 13 with (refine wpList_store_mid rfl _ _ _ rfl w3.heap.size 0 (u64s r) rfl rfl hth (by rw [siz5]; simp [hn]) h1 ?_)
      change Code.wp _ _ _ _ ((w3.alloc (.cells (u64s [0, 0, 0, 0, 0]) 127)).setCells w3.heap.size 0 (u64s r).toList)
      generalize (w3.alloc (.cells (u64s [0, 0, 0, 0, 0]) 127)).setCells w3.heap.size 0 (u64s r).toList = w4 at H4 ⊢
      obtain ⟨b1, hb1⟩ : ∃ x, w3.heap.size = x := ⟨_, rfl⟩
      rw [hb1] at H4 hsz ⊢
      replace hb1 := Lib.hid hb1
      clear hth h1
      go_upto_region 14 with fail
      have H5 := Lib.hid (H4.out.new (u64s [0, 0, 0, 0, 0]) 127)
      change Code.wp _ _ _ _ (w4.alloc (.cells (u64s [0, 0, 0, 0, 0]) 127))
      have hlt := H4.out.lt (b := b1) (cs := u64s r) (t := 127) (by simp)
      generalize w4.alloc (.cells (u64s [0, 0, 0, 0, 0]) 127) = w5 at H5 ⊢
      obtain ⟨bh, hbh⟩ : ∃ x, w4.heap.size = x := ⟨_, rfl⟩
      rw [hbh] at H5 hlt ⊢
      replace hbh := Lib.hid hbh
      have hne : Hid (w.heap.size ≤ b1 ∧ b1 < bh) := Lib.hid ⟨hsz, hlt⟩
      clear H4 hsz hlt
      have ha0 : Hid (Obol.valL [0, 0, 0, 0, 0] % Obol.P130 = Obol.macc (Obol.rkN K) B 0 ∧ Obol.LB 67108874 [0, 0, 0, 0, 0]) := Lib.hid ⟨by simp [Obol.valL, Obol.macc], rfl, fun i => Nat.le_trans (Obol.zero5_b.le i) (by omega)⟩
      go_wp2_with fail
      go_loopw [10] (fun q1 wr => ∃ (j : Nat) (h : List Nat), q1 = .int .i64 ((16 * j : Nat) : Int) ∧ j ≤ Obol.mblocks len ∧ Hid (Obol.valL h % Obol.P130 = Obol.macc (Obol.rkN K) B j ∧ Obol.LB 67108874 h) ∧ Hid (HR w wr [(bh, u64s h, 127), (b1, u64s r, 127)])) (fun q1 _ => (len + 32 - intOf q1).toNat)
      case atStart => exact ⟨0, _, rfl, by omega, ha0, H5⟩
      case round =>
        clear H5 ha0
        rename World => wr
        obtain ⟨j, h, rfl, hj, hV, H⟩ := hrel
        obtain ⟨a, ha⟩ : ∃ i : Int, ((16 * j : Nat) : Int) = i := ⟨_, rfl⟩
        rw [ha]
        have a0 : 0 ≤ a := by omega
        have hmb : Obol.mblocks len = (len + 15) / 16 := rfl
        by_cases hjl : 16 * j < len
        · have a1 : a < (len : Int) := by omega
          obtain ⟨bb, ob, rfl, hbb, hBB⟩ := CS.out.bl (by rw [HB.out.len]; omega)
          have hsl := fun W => slice_rest (P := Tryd.prog) 42 5 Tryd.underlying42 info8 bb ob len cap (16 * j) (by omega) (by omega) W
          rw [if_neg (by omega), ha] at hsl
          have hwa := wrap_small (x := a + 16) (by omega) (by omega)
          replace hBB := Lib.hid hBB
          replace hbb := Lib.hid hbb
          replace hmb := Lib.hid hmb
          go_upto_region 18 with fail
          have H6 := Lib.hid (H.out.new (u8s (zs 17)) 126)
          have hltx := H.out.lt (b := bh) (cs := u64s h) (t := 127) (by simp)
          change Code.wp _ _ _ _ (wr.alloc (.cells (u8s (zs 17)) 126))
          generalize wr.alloc (.cells (u8s (zs 17)) 126) = w6 at H6 ⊢
          obtain ⟨bx, hbx⟩ : ∃ x, wr.heap.size = x := ⟨_, rfl⟩
          rw [hbx] at H6 hltx ⊢
          replace hbx := Lib.hid hbx
          have hnx : Hid (w.heap.size ≤ bx ∧ b1 ≠ bx ∧ bh ≠ bx) := Lib.hid (by have := hne.out; omega)
          clear hltx H
          have hdl : (B.drop (16 * j)).length = len - 16 * j := by rw [List.length_drop, HB.out.len]
          obtain ⟨n, hn0⟩ : ∃ n, min 16 (len - 16 * j) = n := ⟨_, rfl⟩
          have hcp := copy8 w6.drew bx (zs 17) 126 (H6.out.drew.row (by simp)) 16 17 bb (ob + 16 * j) (cap - 16 * j) (B.drop (16 * j)) (by simp) (fun i hi => by
            rw [hdl] at hi
            have h := (hBB.out.below H6.out.drew.2 hbb.out) (16 * j + i) (by rw [HB.out.len]; omega)
            rw [Nat.add_assoc, h, List.getD_eq_getElem?_getD, List.getD_eq_getElem?_getD, List.getElem?_drop])
          have hxs := Obol.xblk_set (B := B) (at' := 16 * j) (by rw [HB.out.len]; exact hjl)
          have hbw : Obol.blkW B.length (16 * j) = n := by rw [← hn0, HB.out.len]; rfl
          rw [hbw] at hxs
          obtain ⟨X, hX⟩ : ∃ x, (B.drop (16 * j)).take 16 ++ (zs 17).drop (min 16 (B.drop (16 * j)).length) = x := ⟨_, rfl⟩
          rw [hX] at hcp hxs
          have hXl : X.length = 17 := by
            have h := congrArg List.length hxs
            rwa [List.length_set, Obol.xblk_len (by rw [HB.out.len]; exact hjl)] at h
          rw [hdl, hn0] at hcp
          obtain ⟨m, hm⟩ : ∃ z : Int, (n : Int) = z := ⟨_, rfl⟩
          have m0 : 0 ≤ m := by omega
          have m1 : m < 17 := by omega
          rw [show goInt (n : Nat) = .int .i64 m by rw [← hm]; rfl] at hcp
          have hmn : m.toNat = n := by omega
          have H7 := Lib.hid (H6.out.drew.row8 (by simp; have := hnx.out; omega) hnx.out.1 (u8s X))
          clear hdl hX H6
          replace hm := Lib.hid hm
          replace hn0 := Lib.hid hn0
          replace hbw := Lib.hid hbw
          go_region
          clear hcp hsl
          generalize w6.drew.setRow bx (u8s X) = w7 at H7 ⊢
          have hxm := X.getD m.toNat 0
          have c := H7.out.cell (b := bx) (cs := u8s X) (t := 126) (by simp) m.toNat (u8s_get _ _ (by omega))
          have f := H7.out.free (b := bx) (cs := u8s X) (t := 126) (by simp) m.toNat
          have H8 := HR.set8 H7.out (by simp; have := hnx.out; omega) hnx.out.1 m.toNat 1 (z := 1) rfl
          rw [hmn, hxs, ← hmn] at H8
          replace H8 := Lib.hid H8
          replace hmn := Lib.hid hmn
          have hxb := Lib.hid (Obol.xblk_lt HB.out.lt (16 * j))
          have hxl := Lib.hid (Obol.xblk_len (B := B) (at' := 16 * j) (by rw [HB.out.len]; exact hjl))
          have cL := Lib.hid (qLimbs bx (Obol.xblk B (16 * j)) ⟨hxl.out, hxb.out⟩ _ (H8.out.row (b := bx) (cs := u8s (Obol.xblk B (16 * j))) (t := 126) (by simp)))
          clear H7
          replace hxs := Lib.hid hxs
          replace hXl := Lib.hid hXl
          go_wp2_with fail
          refine cL.out.mono ?_
          rintro e w9 ⟨rfl, hb9⟩
          have H9 := Lib.hid ((H8.out.next hb9).sub (qs := [(bh, u64s h, 127), (b1, u64s r, 127)]) (by simp))
          clear hb9 cL H8 c f
          have hrv := Lib.hid (Obol.round_val (K := K) (r := r) HB.out.lt HU.out hV.out.2 hr1.out hr2.out (j := j) (by rw [HB.out.len]; exact hjl) hV.out.1)
          have hlb := Lib.hid (Obol.limbsN_val hxb.out hxl.out (by rw [Obol.xblk_val]; have := Obol.blkN_lt HB.out.lt (16 * j); omega)).2
          obtain ⟨l, hl0⟩ : ∃ x, Obol.limbsN (Obol.xblk B (16 * j)) = x := ⟨_, rfl⟩
          rw [hl0] at hrv hlb ⊢
          replace hl0 := Lib.hid hl0
          have H10 : Hid (HR w w9 [(bh, u64s (Obol.accS h l 0), 127), (b1, u64s r, 127)]) := H9
          clear H9
          go_wp2_with fail
          go_loopw [61] (fun q1 wr => ∃ k : Nat, q1 = .int .i64 (k : Int) ∧ k ≤ 5 ∧ Hid (HR w wr [(bh, u64s (Obol.accS h l k), 127), (b1, u64s r, 127)])) (fun q1 _ => (5 - intOf q1).toNat)
          case atStart => exact ⟨0, rfl, by omega, H10⟩
          case round =>
            clear H10
            rename World => wy
            obtain ⟨k, rfl, hk, H⟩ := hrel
            obtain ⟨i, hi⟩ : ∃ i : Int, (k : Int) = i := ⟨_, rfl⟩
            rw [hi]
            have i0 : 0 ≤ i := by omega
            by_cases hk5 : k < 5
            · have i1 : i < 5 := by omega
              have hik : Hid (i.toNat = k) := Lib.hid (by omega)
              have hix := fun W => index_agg5 (P := Tryd.prog) 127 22 5 l hlb.out.len und5 undU infoU i0 (by omega) W
              obtain ⟨y, hy⟩ : ∃ x : Int, ((l.getD i.toNat 0 : Nat) : Int) = x := ⟨_, rfl⟩
              rw [hy] at hix
              obtain ⟨v, hv⟩ : ∃ x : Int, (((Obol.accS h l k).getD i.toNat 0 : Nat) : Int) = x := ⟨_, rfl⟩
              have hvl : (Obol.accS h l k).getD i.toNat 0 ≤ 67108874 := by
                rw [Obol.accS_get _ _ _ _ (by rw [hV.out.2.len]; omega), if_neg (by omega)]
                exact hV.out.2.le _
              have hyl := hlb.out.le i.toNat
              have y0 : 0 ≤ y := by omega
              have v0 : 0 ≤ v := by omega
              have wv := u64w (x := v + y) (by omega) (by omega)
              have c := H.out.cell (b := bh) (cs := u64s (Obol.accS h l k)) (t := 127) (by simp) i.toNat (v := .int .u64 v) ((u64s_get _ (by rw [Obol.accS_len, hV.out.2.len]; omega)).trans (by rw [hv]))
              have f := H.out.free (b := bh) (cs := u64s (Obol.accS h l k)) (t := 127) (by simp) i.toNat
              have HN := HR.setU H.out (by simp; have := hne.out; omega) (by have := hne.out; omega) i.toNat ((Obol.accS h l k).getD i.toNat 0 + l.getD i.toNat 0) (z := v + y) (by rw [← hv, ← hy, Int.natCast_add])
              have HN2 : Hid (HR w (wy.setCell ⟨bh, i.toNat, none⟩ (.int .u64 (v + y))) [(bh, u64s (Obol.accS h l (k + 1)), 127), (b1, u64s r, 127)]) := Lib.hid (by
                show HR w _ [(bh, u64s ((Obol.accS h l k).set k ((Obol.accS h l k).getD k 0 + l.getD k 0)), 127), (b1, u64s r, 127)]
                rw [hik.out] at HN ⊢; exact HN)
              replace hy := Lib.hid hy
              replace hv := Lib.hid hv
              clear HN hvl hyl H
              go_wp2_with fail
              go_roundw
              case rel => exact ⟨k + 1, by simp; omega, by omega, HN2⟩
              case measure => simp [intOf]; omega
            · obtain rfl : k = 5 := by omega
              have i1 : ¬ i < 5 := by omega
              obtain ⟨g, hg⟩ : ∃ x, Obol.accS h l 5 = x := ⟨_, rfl⟩
              rw [hg] at H hrv
              replace hg := Lib.hid hg
              have hng : (u64s g).size = 5 := by rw [u64s_n, hrv.out.2.2.len]
              have hnr : (u64s r).size = 5 := by rw [u64s_n, hr2.out.len]
              have RH := Lib.hid (H.out.row (b := bh) (cs := u64s g) (t := 127) (by simp))
              have RR := Lib.hid (H.out.row (b := b1) (cs := u64s r) (t := 127) (by simp))
              have cT := Lib.hid (qTimes g r hrv.out.2.2 hr2.out wy)
              go_wp2_with (first | (refine wpList_load_mid rfl _ _ rfl bh 0 rfl (u64s g).toList _ RH.out.range und5 rfl (by rw [siz5]; simp [hng]) ?_) | (refine wpList_load_mid rfl _ _ rfl b1 0 rfl (u64s r).toList _ RR.out.range und5 rfl (by rw [siz5]; simp [hnr]) ?_))
              rw [Array.toArray_toList, Array.toArray_toList]
              refine cT.out.mono ?_
              rintro e w10 ⟨rfl, hb10⟩
              have H11 := Lib.hid (H.out.next hb10)
              obtain ⟨T, hT⟩ : ∃ x, Obol.timesL g r = x := ⟨_, rfl⟩
              rw [hT] at hrv ⊢
              clear hb10 cT RH RR H
              replace hT := Lib.hid hT
              have hnT : (u64s T).size = 5 := by rw [u64s_n, hrv.out.2.1.len]
              have h1 : (u64s T).all (·.oneCell') = true := u64s_one T
              have hth : w10.there bh 0 (u64s T).size := by rw [hnT, ← hng]; exact (H11.out.row (b := bh) (cs := u64s g) (t := 127) (by simp)).there
              have HZ := Lib.hid (HR.overL H11.out (by simp; have := hne.out; omega) (by have := hne.out; omega) (u64s T) (by rw [hnT, hng]))
              clear H11
              go_wp2_with (refine wpList_store_mid rfl _ _ _ rfl bh 0 (u64s T) rfl rfl hth (by rw [siz5]; simp [hnT]) h1 ?_)
              go_roundw
              case rel => exact ⟨j + 1, T, by have := ha; simp; omega, by have := hmb.out; omega, Lib.hid ⟨hrv.out.1, hrv.out.2.1⟩, HZ⟩
              case measure => simp [intOf]; omega
        · have a1 : ¬ a < (len : Int) := by omega
          obtain rfl : j = Obol.mblocks len := by omega
          have hmk : ∀ W : World, (Instr.makeSlice 42 (.int .i64 16) (.int .i64 16)).run Tryd.prog W = .ok (.slice (some ⟨W.heap.size, 0, none⟩) 16 16) (W.alloc (.cells (u8s (zs 16)) 5)) := fun W => by
            obtain ⟨ti, hti, htz, hts, htb⟩ := info_parts info8
            have h := run_make (P := Tryd.prog) W 42 5 ti (.int .u8 0) Tryd.underlying42 hti htz .i64 .i64 16 16 (by omega) (by omega) (by rw [htb]; omega) (by omega)
            rw [hts] at h
            rw [h]
            have e : madeCells (Value.int .u8 0).cells 16 = u8s (zs 16) := Array.toList_inj.1 ((toList_madeCells_one (.int .u8 0) 16).trans rfl)
            rw [← e]
            rfl
          have hnh : (u64s h).size = 5 := by rw [u64s_n, hV.out.2.len]
          have RH := Lib.hid (H.out.row (b := bh) (cs := u64s h) (t := 127) (by simp))
          have cW := qWhole h ⟨hV.out.2.len, fun i => Nat.le_trans (hV.out.2.le i) (by omega)⟩ wr
          rw [hV.out.1] at cW
          obtain ⟨S, hS⟩ : ∃ x, Obol.digs 17 (Obol.macc (Obol.rkN K) B (Obol.mblocks len)) = x := ⟨_, rfl⟩
          rw [hS] at cW
          have hSl : S.length = 17 := by rw [← hS, Obol.digs_len]
          have hSb : Hid (∀ i, S.getD i 0 < 256) := Lib.hid (fun i => by rw [← hS]; exact Obol.digs_lt _ _ i)
          have hML : Hid (Obol.markL K B = Obol.carrL (Obol.accS S (K.drop 16) 16) 16) := Lib.hid (by unfold Obol.markL; rw [HB.out.len, hS])
          replace hS := Lib.hid hS
          replace cW := Lib.hid cW
          clear ha hj hV
          go_wp2_with (refine wpList_load_mid rfl _ _ rfl bh 0 rfl (u64s h).toList _ RH.out.range und5 rfl (by rw [siz5]; simp [hnh]) ?_)
          rw [Array.toArray_toList]
          refine cW.out.mono ?_
          rintro e w11 ⟨rfl, hb11⟩
          have H11 := Lib.hid ((H.out.next hb11).sub (qs := []) (by simp))
          clear hb11 cW RH H
          have hnS : (u8s S).size = 17 := by rw [u8s_size, hSl]
          have h1 : (u8s S).all (·.oneCell') = true := u8s_one S
          have hth : (w11.alloc (.cells (u8s (zs 17)) 126)).there w11.heap.size 0 (u8s S).size := by rw [hnS, ← (show (u8s (zs 17)).size = 17 by simp [u8s_size])]; exact (Row.new _ _ _).there
          have H12 := Lib.hid (H11.out.laidL (u8s (zs 17)) (u8s S) 126 (by rw [hnS]; simp [u8s_size]))
          have hsz := H11.out.2.size
          clear H11
          go_upto_region 27 with (refine wpList_store_mid rfl _ _ _ rfl w11.heap.size 0 (u8s S) rfl rfl hth (by rw [siz17]; simp [hnS]) h1 ?_)
          change Code.wp _ _ _ _ ((w11.alloc (.cells (u8s (zs 17)) 126)).setCells w11.heap.size 0 (u8s S).toList)
          generalize (w11.alloc (.cells (u8s (zs 17)) 126)).setCells w11.heap.size 0 (u8s S).toList = w12 at H12 ⊢
          obtain ⟨bs, hbs⟩ : ∃ x, w11.heap.size = x := ⟨_, rfl⟩
          rw [hbs] at H12 hsz ⊢
          replace hbs := Lib.hid hbs
          clear hth h1
          go_upto_region 28 with fail
          have H13 := Lib.hid (H12.out.new (u8s (zs 16)) 5)
          have hlt := H12.out.lt (b := bs) (cs := u8s S) (t := 126) (by simp)
          generalize w12.alloc (.cells (u8s (zs 16)) 5) = w13 at H13 ⊢
          obtain ⟨bo, hbo⟩ : ∃ x, w12.heap.size = x := ⟨_, rfl⟩
          rw [hbo] at H13 hlt ⊢
          replace hbo := Lib.hid hbo
          have hnz : Hid (w.heap.size ≤ bs ∧ bs < bo) := Lib.hid ⟨hsz, hlt⟩
          clear H12 hsz hlt hmk
          obtain ⟨A, hA⟩ : ∃ x, Obol.accS S (K.drop 16) 16 = x := ⟨_, rfl⟩
          have hAg : Hid (∀ i, i < 16 → A.getD i 0 = S.getD i 0 + K.getD (16 + i) 0) := Lib.hid (fun i hi => by rw [← hA, Obol.accS_get _ _ _ _ (by omega), if_pos hi, Obol.getD_drop])
          have hAb : Hid (∀ i, A.getD i 0 ≤ 1000) := Lib.hid (fun i => by
            rw [← hA, Obol.accS_get _ _ _ _ (by omega), Obol.getD_drop]
            have h1 := hSb.out i
            have h2 := HU.out (16 + i)
            split <;> omega)
          rw [hA] at hML
          replace hA := Lib.hid hA
          have H14 : Hid (HR w w13 [(bo, u8s (Obol.carrS A 16 0), 5), (bs, u8s S, 126)]) := H13
          clear H13
          go_wp2_with fail
          go_loopw [17, 80] (fun q1 q2 wr => ∃ j : Nat, q1 = .int .i64 ((Obol.crest A j : Nat) : Int) ∧ q2 = .int .i64 (j : Int) ∧ j ≤ 16 ∧ Hid (HR w wr [(bo, u8s (Obol.carrS A 16 j), 5), (bs, u8s S, 126)])) (fun _ q2 _ => (16 - intOf q2).toNat)
          case atStart => exact ⟨0, rfl, rfl, by omega, H14⟩
          case round =>
            clear H14
            rename World => wy
            obtain ⟨j, rfl, rfl, hj, H⟩ := hrel
            obtain ⟨i, hi⟩ : ∃ i : Int, (j : Int) = i := ⟨_, rfl⟩
            have hcl := Obol.crest_le hAb.out j
            obtain ⟨s, hs⟩ : ∃ s : Int, ((Obol.crest A j : Nat) : Int) = s := ⟨_, rfl⟩
            rw [hi, hs]
            have i0 : 0 ≤ i := by omega
            have s0 : 0 ≤ s := by omega
            have s1 : s ≤ 1000 := by omega
            by_cases hj16 : j < 16
            · have i1 : i < 16 := by omega
              have hij : Hid (i.toNat = j) := Lib.hid (by omega)
              have h16 : (16 + i).toNat = 16 + j := by omega
              obtain ⟨p, hp⟩ : ∃ x : Int, ((S.getD i.toNat 0 : Nat) : Int) = x := ⟨_, rfl⟩
              obtain ⟨q, hq⟩ : ∃ x : Int, ((K.getD (16 + i).toNat 0 : Nat) : Int) = x := ⟨_, rfl⟩
              have hpb := hSb.out i.toNat
              have hqb := HU.out (16 + i).toNat
              have p0 : 0 ≤ p := by omega
              have p1 : p ≤ 255 := by omega
              have q0 : 0 ≤ q := by omega
              have q1 : q ≤ 255 := by omega
              have cS := H.out.cell (b := bs) (cs := u8s S) (t := 126) (by simp) i.toNat (v := .int .u8 p) ((u8s_get _ _ (by omega)).trans (by rw [hp]))
              have cK : wy.cell? ⟨bk, ok + (16 + i).toNat, none⟩ = some (.int .u8 q) := by
                rw [(CK.out.below H.out.2 hkb.out) (16 + i).toNat (by rw [HK.out.len]; omega), hq]
              have w1 := wrap_small (x := 16 + i) (by omega) (by omega)
              have w2 := wrap_small (x := p + q) (by omega) (by omega)
              have w3 := wrap_small (x := s + (p + q)) (by omega) (by omega)
              have hAj := hAg.out j hj16
              have hu : Hid (s + (p + q) = ((Obol.crest A j + A.getD j 0 : Nat) : Int)) := Lib.hid (by
                rw [hAj, ← hs, ← hp, ← hq, hij.out, h16]; omega)
              obtain ⟨u, hu2⟩ : ∃ u, s + (p + q) = u := ⟨_, rfl⟩
              have H20 := Lib.hid H.out.drew
              replace h16 := Lib.hid h16
              replace hp := Lib.hid hp
              replace hq := Lib.hid hq
              replace hs := Lib.hid hs
              clear hAj hpb hqb hcl H
              go_wp2_with fail
              go_region
              clear cS cK w1 w2
              generalize wy.drew = wz at H20 ⊢
              have u0 : 0 ≤ u := by omega
              have u1 : u ≤ 2000 := by omega
              rw [hu2] at hu
              clear hu2 w3
              have c := H20.out.cell (b := bo) (cs := u8s (Obol.carrS A 16 j)) (t := 5) (by simp) i.toNat (u8s_get _ _ (by rw [Obol.carrS_len, hij.out]; omega))
              have f := H20.out.free (b := bo) (cs := u8s (Obol.carrS A 16 j)) (t := 5) (by simp) i.toNat
              have HN := HR.set8 H20.out (by simp; have := hnz.out; omega) (by have := hnz.out; omega) i.toNat ((Obol.crest A j + A.getD j 0) % 256) (z := u % 256) (by rw [hu.out]; rfl)
              have HN2 : Hid (HR w (wz.setCell ⟨bo, i.toNat, none⟩ (.int .u8 (u % 256))) [(bo, u8s (Obol.carrS A 16 (j + 1)), 5), (bs, u8s S, 126)]) := Lib.hid (by
                show HR w _ [(bo, u8s ((Obol.carrS A 16 j).set j ((Obol.crest A j + A.getD j 0) % 256)), 5), (bs, u8s S, 126)]
                rw [hij.out] at HN ⊢; exact HN)
              have hR : Hid (u / 256 = ((Obol.crest A (j + 1) : Nat) : Int)) := Lib.hid (by rw [hu.out]; rfl)
              clear HN H20
              go_wp2_with fail
              go_roundw
              case rel => exact ⟨j + 1, by rw [← hR.out], by simp; omega, by omega, HN2⟩
              case measure => simp [intOf]; omega
            · obtain rfl : j = 16 := by omega
              have i1 : ¬ i < 16 := by omega
              have H20 : Hid (HR w wy [(bo, u8s (Obol.markL K B), 5)]) := Lib.hid (by rw [hML.out]; exact H.out.sub (by simp [Obol.carrL]))
              replace hs := Lib.hid hs
              go_wp2_with fail
              go_ret2
              exact ⟨bo, rfl, H20.out.row (by simp), by have := hnz.out; omega, H20.out.2⟩

end Go.Proofs.YtallfmiikjmgaaaDoor
