import Derived.Test.YtallfmiikjmgaaaDoorZWrsum
import Derived.Test.YtallfmiikjmgaaaDoorZWqua
set_option linter.unusedVariables false
set_option linter.unusedSimpArgs false
/- Walks: package cipher: a block of the stream. -/
namespace Obol
def sigL : List Nat := [1634760805, 857760878, 2036477234, 1797285236, 0, 0, 0, 0, 0, 0, 0, 0, 0, 0, 0, 0]
/-- Words of bytes laid from a place on. -/
def setsW (B : List Nat) (o : Nat) : Nat → List Nat → List Nat
  | 0, l => l
  | i + 1, l => (setsW B o i l).set (o + i) (wordAt B (4 * i))
def frstL (K N : List Nat) (count : Nat) : List Nat := setsW N 13 3 ((setsW K 4 8 sigL).set 12 count)
def qcols : Nat → List Nat → List Nat
  | 0, v => v
  | k + 1, v => quaL (qcols k v) k (4 + k) (8 + k) (12 + k)
def qdias : Nat → List Nat → List Nat
  | 0, v => v
  | k + 1, v => quaL (qdias k v) k (4 + (k + 1) % 4) (8 + (k + 2) % 4) (12 + (k + 3) % 4)
def qrnds : Nat → List Nat → List Nat
  | 0, v => v
  | i + 1, v => qdias 4 (qcols 4 (qrnds i v))
def finL (v f : List Nat) : List Nat := (List.range 16).map fun i => add2 (v.getD i 0) (f.getD i 0)
def blkL (K N : List Nat) (count : Nat) : List Nat := wordsB (finL (qrnds 10 (frstL K N count)) (frstL K N count))

theorem sig_w : W32 16 sigL := ⟨rfl, fun i => by
  have h : ∀ x ∈ sigL, x < 4294967296 := by decide
  rw [List.getD_eq_getElem?_getD]
  cases hi : sigL[i]? with
  | none => decide
  | some x => exact h x (List.mem_of_getElem? hi)⟩
theorem setsW_w {B : List Nat} (hB : ∀ i, B.getD i 0 < 256) (o : Nat) {l : List Nat} (h : W32 16 l) : ∀ i, W32 16 (setsW B o i l)
  | 0 => h
  | i + 1 => (setsW_w hB o h i).set _ _ (wordAt_lt B hB _)
theorem frst_w {K N : List Nat} (hK : ∀ i, K.getD i 0 < 256) (hN : ∀ i, N.getD i 0 < 256) {count : Nat} (hc : count < 4294967296) : W32 16 (frstL K N count) :=
  setsW_w hN _ ((setsW_w hK _ sig_w _).set _ _ hc) _
theorem quaL_w {L : List Nat} (h : W32 16 L) (a b c d : Nat) : W32 16 (quaL L a b c d) := by
  have hA : ∀ {M : List Nat} (_ : W32 16 M) (a b : Nat), W32 16 (sC M a b) := fun h a b => h.set _ _ (add2_lt _ _)
  have hX : ∀ {M : List Nat} (_ : W32 16 M) (n t s : Nat), W32 16 (sX M n t s) := fun h n t s => h.set _ _ (rotW_lt _ _ (xor_lt (h.lt _) (h.lt _)))
  exact hX (hA (hX (hA (hX (hA (hX (hA h _ _) _ _ _) _ _) _ _ _) _ _) _ _ _) _ _) _ _ _
theorem qcols_w {v : List Nat} (h : W32 16 v) : ∀ k, W32 16 (qcols k v)
  | 0 => h
  | k + 1 => quaL_w (qcols_w h k) _ _ _ _
theorem qdias_w {v : List Nat} (h : W32 16 v) : ∀ k, W32 16 (qdias k v)
  | 0 => h
  | k + 1 => quaL_w (qdias_w h k) _ _ _ _
theorem qrnds_w {v : List Nat} (h : W32 16 v) : ∀ i, W32 16 (qrnds i v)
  | 0 => h
  | i + 1 => qdias_w (qcols_w (qrnds_w h i) 4) 4
theorem fin_w (v f : List Nat) : W32 16 (finL v f) := ⟨by simp [finL], fun i => by
  unfold finL
  rw [List.getD_eq_getElem?_getD, List.getElem?_map]
  cases (List.range 16)[i]? with
  | none => show (0 : Nat) < 4294967296; decide
  | some x => exact add2_lt _ _⟩
theorem fin_get (v f : List Nat) {i : Nat} (h : i < 16) : (finL v f).getD i 0 = add2 (v.getD i 0) (f.getD i 0) := by
  unfold finL
  rw [List.getD_eq_getElem?_getD, List.getElem?_map, List.getElem?_range h]
  rfl
theorem blk_len (K N : List Nat) (c : Nat) : (blkL K N c).length = 64 := by
  unfold blkL
  rw [Go.Proofs.YtallfmiikjmgaaaDoor.wordsB_len, (fin_w _ _).len]
end Obol
namespace Go.Proofs.YtallfmiikjmgaaaDoor
open Go.RowKit

theorem blk_b8 (K N : List Nat) (c : Nat) : B8 64 (Obol.blkL K N c) := by
  have h := B8.of (wordsB_lt (Obol.finL (Obol.qrnds 10 (Obol.frstL K N c)) (Obol.frstL K N c)))
  exact ⟨Obol.blk_len K N c, h.lt⟩

theorem qFitsY (a b : Option Addr) (c d : Nat) (w : World) :
    Calls Tryd.prog 66 #[.slice a 32 c, .slice b 12 d] w fun e w' => e = .returned (.bool true) ∧ w' = w := by
  go_enter Tryd.func66, Tryd.ntmps66
  go_wp2
  go_ret
  exact ⟨rfl, rfl⟩
theorem qFitsN (a b : Option Addr) (m n c d : Nat) (h : ¬ (m = 32 ∧ n = 12)) (w : World) :
    Calls Tryd.prog 66 #[.slice a m c, .slice b n d] w fun e w' => e = .returned (.bool false) ∧ w' = w := by
  by_cases h1 : m = 32
  · have h2 : ((n : Int) == 12) = false := beq_eq_false_iff_ne.2 (by omega)
    have h3 : ((m : Int) == 32) = true := beq_iff_eq.2 (by omega)
    clear h h1
    go_enter Tryd.func66, Tryd.ntmps66
    go_wp2
    go_ret
    exact ⟨rfl, rfl⟩
  · have h3 : ((m : Int) == 32) = false := beq_eq_false_iff_ne.2 (by omega)
    clear h h1
    go_enter Tryd.func66, Tryd.ntmps66
    go_wp2
    go_ret
    exact ⟨rfl, rfl⟩

theorem qWord (b a len cap : Nat) (hl : 4 ≤ len) (hl2 : len ≤ 9223372036854775807) (v0 v1 v2 v3 : Int) (h0 : 0 ≤ v0) (g0 : v0 ≤ 255) (h1 : 0 ≤ v1) (g1 : v1 ≤ 255) (h2 : 0 ≤ v2) (g2 : v2 ≤ 255) (h3 : 0 ≤ v3) (g3 : v3 ≤ 255) (w : World)
    (c0 : w.cell? ⟨b, a, none⟩ = some (.int .u8 v0)) (c1 : w.cell? ⟨b, a + 1, none⟩ = some (.int .u8 v1)) (c2 : w.cell? ⟨b, a + 2, none⟩ = some (.int .u8 v2)) (c3 : w.cell? ⟨b, a + 3, none⟩ = some (.int .u8 v3)) :
    Calls Tryd.prog 103 #[.slice (some ⟨b, a, none⟩) len cap] w fun e w' => e = .returned (.int .u32 (v0 + v1 * 256 + v2 * 65536 + v3 * 16777216)) ∧ ∃ n, w' = w.drewN n := by
  have e1 : bits .or .u32 v0 (v1 * 256) = v0 + v1 * 256 := or_at 8 (by decide) h0 (by omega) h1 g1
  have e2 : bits .or .u32 (v0 + v1 * 256) (v2 * 65536) = v0 + v1 * 256 + v2 * 65536 := or_at 16 (by decide) (by omega) (by omega) h2 g2
  have e3 : bits .or .u32 (v0 + v1 * 256 + v2 * 65536) (v3 * 16777216) = v0 + v1 * 256 + v2 * 65536 + v3 * 16777216 := or_at 24 (by decide) (by omega) (by omega) h3 g3
  go_enter Tryd.func103, Tryd.ntmps103
  go_wp2_with fail
  go_quiet (fail)
  go_wp2
  go_ret
  exact ⟨rfl, _, rfl⟩
/-- The same at bytes that are told as a list. -/
theorem qWordAt (b q o a len cap : Nat) (B : List Nat) (n : Nat) (H : B8 n B) (ha : a = q + o) (hl : 4 ≤ len) (hl2 : len ≤ 9223372036854775807) (ho : o + 3 < n) (w : World) (hc : BL w b q B) :
    Calls Tryd.prog 103 #[.slice (some ⟨b, a, none⟩) len cap] w fun e w' => e = .returned (.int .u32 ((Obol.wordAt B o : Nat) : Int)) ∧ ∃ n, w' = w.drewN n := by
  subst ha
  have g : ∀ j, B.getD j 0 ≤ 255 := fun j => by have := H.lt j; omega
  have h := qWord b (q + o) len cap hl hl2 ((B.getD o 0 : Nat) : Int) ((B.getD (o + 1) 0 : Nat) : Int) ((B.getD (o + 2) 0 : Nat) : Int) ((B.getD (o + 3) 0 : Nat) : Int)
    (by omega) (by have := g o; omega) (by omega) (by have := g (o + 1); omega) (by omega) (by have := g (o + 2); omega) (by omega) (by have := g (o + 3); omega) w
    (hc o (by rw [H.len]; omega)) (hc (o + 1) (by rw [H.len]; omega)) (hc (o + 2) (by rw [H.len]; omega)) (hc (o + 3) (by rw [H.len]; omega))
  refine h.mono ?_
  rintro e w' ⟨rfl, k⟩
  refine ⟨?_, k⟩
  congr 2
  unfold Obol.wordAt
  omega

theorem und53 : Tryd.prog.underlying 112 = some (.array 16 91) := by kernel_rfl
theorem siz53 : (Tryd.prog.info? 112).map (·.size) = some 16 := by kernel_rfl

theorem news4 (w : World) {z : Int} (z0 : 0 ≤ z) (z1 : z ≤ 4294967295) : ∀ j, j < (Obol.bytes4 z.toNat).length → (w.alloc (.cells #[.int .u8 (z % 256), .int .u8 (z / 256 % 256), .int .u8 (z / 65536 % 256), .int .u8 (z / 16777216)] 5)).cell? ((⟨w.heap.size, 0, none⟩ : Addr).add j) = some (.int .u8 (((Obol.bytes4 z.toNat).getD j 0 : Nat) : Int)) := fun j hj => by
  obtain ⟨Z, rfl⟩ := Int.eq_ofNat_of_zero_le z0
  have h : Row (w.alloc (.cells #[.int .u8 ((Z : Int) % 256), .int .u8 ((Z : Int) / 256 % 256), .int .u8 ((Z : Int) / 65536 % 256), .int .u8 ((Z : Int) / 16777216)] 5)) w.heap.size _ 5 := Row.new w _ _
  rw [addP, Nat.zero_add, Int.toNat_natCast]
  match j, hj with
  | 0, _ => exact h.cell 0 (by simp [Obol.bytes4])
  | 1, _ => exact h.cell 1 (by simp [Obol.bytes4])
  | 2, _ => exact h.cell 2 (by simp [Obol.bytes4])
  | 3, _ => exact h.cell 3 (by simp [Obol.bytes4]; omega)

set_option maxRecDepth 8000 in
set_option maxHeartbeats 4000000 in
theorem qBlock (bk ok ck bn on cn : Nat) (K N : List Nat) (HK : B8 32 K) (HN : B8 12 N) (count : Int) (k0 : 0 ≤ count) (k1 : count ≤ 4294967295) (hck : 32 ≤ ck) (hcn : 12 ≤ cn) (w : World) (hbk : bk < w.heap.size) (hbn : bn < w.heap.size) (hBK : BL w bk ok K) (hBN : BL w bn on N) :
    Calls Tryd.prog 93 #[.slice (some ⟨bk, ok, none⟩) 32 ck, .slice (some ⟨bn, on, none⟩) 12 cn, .int .u32 count] w fun e w' => ∃ g cap2, e = .returned (.tuple #[.slice (some ⟨g, 0, none⟩) 64 cap2, .nilIface]) ∧ OwnB w' w.heap.size (.slice (some ⟨g, 0, none⟩) 64 cap2) (Obol.blkL K N count.toNat) ∧ Below w.heap.size w w' := by
  have HK := Lib.hid HK
  have HN := Lib.hid HN
  have CK := Lib.hid hBK
  have CN := Lib.hid hBN
  clear hBK hBN
  go_enter Tryd.func93, Tryd.ntmps93
  go_wp2_with fail
  refine (qFitsY _ _ _ _ _).mono ?_
  rintro e w1 ⟨rfl, rfl⟩
  go_wp2_with fail
  change Code.wp _ _ _ _ (w1.alloc (.cells (u32s Obol.sigL) 112))
  have R := Lib.hid (Row.new w1 (u32s Obol.sigL) 112)
  have B := Lib.hid (bAlloc (Below.refl _ w1) (.cells (u32s Obol.sigL) 112))
  generalize w1.alloc (.cells (u32s Obol.sigL) 112) = w2 at R B ⊢
  obtain ⟨b0, hb0⟩ : ∃ b, w1.heap.size = b := ⟨_, rfl⟩
  rw [hb0] at R hbk hbn ⊢
  replace hb0 := Lib.hid hb0
  go_loopw [23] (fun q1 wr => ∃ j : Nat, q1 = .int .i64 (j : Int) ∧ j ≤ 8 ∧ Hid (Row wr b0 (u32s (Obol.setsW K 4 j Obol.sigL)) 112) ∧ Hid (Below w1.heap.size w1 wr)) (fun q1 _ => (8 - intOf q1).toNat)
  case atStart => exact ⟨0, rfl, by omega, R, B⟩
  case round =>
    clear R B
    obtain ⟨j, rfl, hj, R, B⟩ := hrel
    obtain ⟨i, hi⟩ : ∃ i : Int, (j : Int) = i := ⟨_, rfl⟩
    rw [hi]
    have i0 : 0 ≤ i := by omega
    by_cases hj8 : j < 8
    · have i1 : i < 8 := by omega
      have HF := Lib.hid (Obol.setsW_w HK.out.lt 4 Obol.sig_w j)
      have hcw := Lib.hid (fun wq (h : Below w1.heap.size w1 wq) => qWordAt bk ok (4 * j) (ok + 4 * j) (32 - 4 * j) (ck - 4 * j) K 32 HK.out rfl (by omega) (by omega) (by omega) wq (CK.out.below h (by rw [hb0.out]; exact hbk)))
      have hsl := fun W => slice_rest (P := Tryd.prog) 42 5 Tryd.underlying42 info8 bk ok 32 ck (4 * j) (by omega) hck W
      rw [if_neg (by omega), show ((4 * j : Nat) : Int) = 4 * i by omega] at hsl
      have e4 : (4 + i).toNat = 4 + j := by omega
      have f := R.out.free (4 + i).toNat
      have c := R.out.cell (4 + i).toNat (u32s_at HF.out (by omega) (by omega))
      have hw4 := wrap_small (x := 4 + i) (by omega) (by omega)
      have hw5 := wrap_small (x := 4 * i) (by omega) (by omega)
      replace e4 := Lib.hid e4
      go_wp2_with (go_at_call 103; refine (hcw.out _ B.out).mono ?_; rintro e w3 ⟨rfl, n, rfl⟩)
      have RN := Lib.hid (rowSet (R.out.drewN n) (4 + i).toNat _ (rfl : ((Obol.wordAt K (4 * j) : Nat) : Int) = _))
      have BN := Lib.hid (bSet (bDrewN B.out n) (b := b0) (o := (4 + i).toNat) (u := .int .u32 ((Obol.wordAt K (4 * j) : Nat) : Int)) (by rw [hb0.out]; exact Nat.le_refl _))
      go_roundw
      case rel => exact ⟨j + 1, by simp; omega, by omega, by show Hid (Row _ _ (u32s ((Obol.setsW K 4 j Obol.sigL).set (4 + j) _)) _); rw [← e4.out]; exact RN, BN⟩
      case measure => simp [intOf]; omega
    · obtain rfl : j = 8 := by omega
      have i1 : ¬ i < 8 := by omega
      have HF := Lib.hid (Obol.setsW_w HK.out.lt 4 Obol.sig_w 8)
      have f := R.out.free 12
      have c := R.out.cell 12 (u32s_get HF.out 12 (by decide))
      go_wp2_with fail
      have HF2 := Lib.hid (HF.out.set 12 count.toNat (by omega))
      have R2 := Lib.hid (rowSet R.out 12 count.toNat (z := count) (by omega))
      have B2 := Lib.hid (bSet B.out (b := b0) (o := 12) (u := .int .u32 count) (by rw [hb0.out]; exact Nat.le_refl _))
      generalize wr.setCell ⟨b0, 12, none⟩ (.int .u32 count) = w3 at R2 B2 ⊢
      generalize hF2 : (Obol.setsW K 4 8 Obol.sigL).set 12 count.toNat = F2 at R2 HF2 ⊢
      replace hF2 := Lib.hid hF2
      clear R B f c HF i0 hi i1
      go_loopw [37] (fun q1 wr => ∃ j : Nat, q1 = .int .i64 (j : Int) ∧ j ≤ 3 ∧ Hid (Row wr b0 (u32s (Obol.setsW N 13 j F2)) 112) ∧ Hid (Below w1.heap.size w1 wr)) (fun q1 _ => (3 - intOf q1).toNat)
      case atStart => exact ⟨0, rfl, by omega, R2, B2⟩
      case round =>
        clear R2 B2
        obtain ⟨j, rfl, hj, R, B⟩ := hrel
        obtain ⟨i, hi⟩ : ∃ i : Int, (j : Int) = i := ⟨_, rfl⟩
        rw [hi]
        have i0 : 0 ≤ i := by omega
        have HF := Lib.hid (Obol.setsW_w HN.out.lt 13 HF2.out j)
        by_cases hj8 : j < 3
        · have i1 : i < 3 := by omega
          have hcw := Lib.hid (fun wq (h : Below w1.heap.size w1 wq) => qWordAt bn on (4 * j) (on + 4 * j) (12 - 4 * j) (cn - 4 * j) N 12 HN.out rfl (by omega) (by omega) (by omega) wq (CN.out.below h (by rw [hb0.out]; exact hbn)))
          have hsl := fun W => slice_rest (P := Tryd.prog) 42 5 Tryd.underlying42 info8 bn on 12 cn (4 * j) (by omega) hcn W
          rw [if_neg (by omega), show ((4 * j : Nat) : Int) = 4 * i by omega] at hsl
          have e4 : (13 + i).toNat = 13 + j := by omega
          have f := R.out.free (13 + i).toNat
          have c := R.out.cell (13 + i).toNat (u32s_at HF.out (by omega) (by omega))
          have hw4 := wrap_small (x := 13 + i) (by omega) (by omega)
          have hw5 := wrap_small (x := 4 * i) (by omega) (by omega)
          replace e4 := Lib.hid e4
          go_wp2_with (go_at_call 103; refine (hcw.out _ B.out).mono ?_; rintro e w3 ⟨rfl, n, rfl⟩)
          have RN := Lib.hid (rowSet (R.out.drewN n) (13 + i).toNat _ (rfl : ((Obol.wordAt N (4 * j) : Nat) : Int) = _))
          have BN := Lib.hid (bSet (bDrewN B.out n) (b := b0) (o := (13 + i).toNat) (u := .int .u32 ((Obol.wordAt N (4 * j) : Nat) : Int)) (by rw [hb0.out]; exact Nat.le_refl _))
          go_roundw
          case rel => exact ⟨j + 1, by simp; omega, by omega, by show Hid (Row _ _ (u32s ((Obol.setsW N 13 j F2).set (13 + j) _)) _); rw [← e4.out]; exact RN, BN⟩
          case measure => simp [intOf]; omega
        · obtain rfl : j = 3 := by omega
          have i1 : ¬ i < 3 := by omega
          generalize hF : Obol.setsW N 13 3 F2 = F at R HF ⊢
          have hFF : Hid (F = Obol.frstL K N count.toNat) := Lib.hid (by rw [← hF, ← hF2.out]; rfl)
          clear hF hF2 HF2
          have hn : (u32s F).size = 16 := u32s_n HF.out
          have hbr : b0 < wr.heap.size := R.out.lt
          have RA := Row.new wr (u32s (zs 16)) 112
          have hz16 : (u32s (zs 16)).size = 16 := by unfold u32s; simp
          have h1 : (u32s F).toList.toArray.all (·.oneCell') = true := by rw [Array.toArray_toList]; exact u32s_one F
          have hth : (wr.alloc (.cells (u32s (zs 16)) 112)).there wr.heap.size 0 (u32s F).toList.toArray.size := by rw [Array.toArray_toList, hn, ← hz16]; exact RA.there
          have RV : Hid (Row ((wr.alloc (.cells (u32s (zs 16)) 112)).setCells wr.heap.size 0 (u32s F).toList.toArray.toList) wr.heap.size (u32s F) 112) := Lib.hid (by rw [Array.toArray_toList]; exact RA.store (u32s F) (by rw [hn, hz16]))
          have R3 : Hid (Row ((wr.alloc (.cells (u32s (zs 16)) 112)).setCells wr.heap.size 0 (u32s F).toList.toArray.toList) b0 (u32s F) 112) := Lib.hid (Row.otherMany (by omega) _ _ _ (R.out.alloc _))
          have B3 : Hid (Below w1.heap.size w1 ((wr.alloc (.cells (u32s (zs 16)) 112)).setCells wr.heap.size 0 (u32s F).toList.toArray.toList)) := Lib.hid (bSetMany (by have := B.out.size; omega) _ _ _ (bAlloc B.out _))
          go_wp2_with (first
            | (refine wpList_load_mid rfl _ _ rfl b0 0 rfl (u32s F).toList _ R.out.range und53 rfl (by rw [siz53]; simp [hn]) ?_)
            | (refine wpList_store_mid rfl _ _ _ rfl wr.heap.size 0 (u32s F).toList.toArray rfl rfl hth (by rw [siz53]; simp [hn]) h1 ?_))
          -- ROUNDS
          change Code.wp _ _ _ _ ((wr.alloc (.cells (u32s (zs 16)) 112)).setCells wr.heap.size 0 (u32s F).toList.toArray.toList)
          generalize (wr.alloc (.cells (u32s (zs 16)) 112)).setCells wr.heap.size 0 (u32s F).toList.toArray.toList = w4 at RV R3 B3 ⊢
          have hb1w : w1.heap.size < wr.heap.size := by rw [hb0.out]; exact hbr
          generalize wr.heap.size = b1 at RV hbr hb1w ⊢
          clear R B hth h1 RA hn hz16 i0 i1 hi
          have RV0 : Hid (Row w4 b1 (u32s (Obol.qrnds 0 F)) 112) := RV
          clear RV
          go_loopw [50] (fun q1 wr => ∃ j : Nat, q1 = .int .i64 (j : Int) ∧ j ≤ 10 ∧ Hid (Row wr b1 (u32s (Obol.qrnds j F)) 112) ∧ Hid (Row wr b0 (u32s F) 112) ∧ Hid (Below w1.heap.size w1 wr)) (fun q1 _ => (10 - intOf q1).toNat)
          case atStart => exact ⟨0, rfl, by omega, RV0, R3, B3⟩
          case round =>
            clear RV0 R3 B3
            rename World => wx
            obtain ⟨j, rfl, hj, RV, R, B⟩ := hrel
            obtain ⟨i, hi⟩ : ∃ i : Int, (j : Int) = i := ⟨_, rfl⟩
            rw [hi]
            have i0 : 0 ≤ i := by omega
            have HV := Lib.hid (Obol.qrnds_w HF.out j)
            by_cases hj10 : j < 10
            · have i1 : i < 10 := by omega
              generalize hV : Obol.qrnds j F = V at RV HV
              replace hV := Lib.hid hV
              have RV0 : Hid (Row wx b1 (u32s (Obol.qcols 0 V)) 112) := RV
              clear RV
              go_wp2_with fail
              go_loopw [52] (fun q1 wr => ∃ k : Nat, q1 = .int .i64 (k : Int) ∧ k ≤ 4 ∧ Hid (Row wr b1 (u32s (Obol.qcols k V)) 112) ∧ Hid (Row wr b0 (u32s F) 112) ∧ Hid (Below w1.heap.size w1 wr)) (fun q1 _ => (4 - intOf q1).toNat)
              case atStart => exact ⟨0, rfl, by omega, RV0, R, B⟩
              case round =>
                clear RV0 R B
                rename World => wy
                obtain ⟨k, rfl, hk, RV, R, B⟩ := hrel
                obtain ⟨x, hx⟩ : ∃ x : Int, (k : Int) = x := ⟨_, rfl⟩
                rw [hx]
                have x0 : 0 ≤ x := by omega
                have HU := Lib.hid (Obol.qcols_w HV.out k)
                by_cases hk4 : k < 4
                · have x1 : x < 4 := by omega
                  have y4 := wrap_small (x := 4 + x) (by omega) (by omega)
                  have y8 := wrap_small (x := 8 + x) (by omega) (by omega)
                  have y12 := wrap_small (x := 12 + x) (by omega) (by omega)
                  have cQ := qMix b1 x (4 + x) (8 + x) (12 + x) x0 (by omega) (by omega) (by omega) (by omega) (by omega) (by omega) (by omega) _ HU.out wy RV.out
                  rw [show x.toNat = k by omega, show (4 + x).toNat = 4 + k by omega, show (8 + x).toNat = 8 + k by omega, show (12 + x).toNat = 12 + k by omega] at cQ
                  replace cQ := Lib.hid cQ
                  go_wp2_with (go_at_call 104; refine cQ.out.mono ?_; rintro e w3 ⟨rfl, RN, hbN⟩)
                  have R' := Lib.hid (R.out.below hbN (by omega))
                  have B' := Lib.hid (B.out.trans (hbN.mono (by omega)))
                  replace RN := Lib.hid RN
                  clear hbN cQ
                  go_roundw
                  case rel => exact ⟨k + 1, by simp; omega, by omega, RN, R', B'⟩
                  case measure => simp [intOf]; omega
                · obtain rfl : k = 4 := by omega
                  have x1 : ¬ x < 4 := by omega
                  generalize hU : Obol.qcols 4 V = U at RV HU
                  replace hU := Lib.hid hU
                  have RV0 : Hid (Row wy b1 (u32s (Obol.qdias 0 U)) 112) := RV
                  clear RV
                  go_wp2_with fail
                  go_loopw [64] (fun q1 wr => ∃ k : Nat, q1 = .int .i64 (k : Int) ∧ k ≤ 4 ∧ Hid (Row wr b1 (u32s (Obol.qdias k U)) 112) ∧ Hid (Row wr b0 (u32s F) 112) ∧ Hid (Below w1.heap.size w1 wr)) (fun q1 _ => (4 - intOf q1).toNat)
                  case atStart => exact ⟨0, rfl, by omega, RV0, R, B⟩
                  case round =>
                    clear RV0 R B x0 x1 hx
                    rename World => wz
                    obtain ⟨k, rfl, hk, RV, R, B⟩ := hrel
                    obtain ⟨x, hx⟩ : ∃ x : Int, (k : Int) = x := ⟨_, rfl⟩
                    rw [hx]
                    have x0 : 0 ≤ x := by omega
                    have HU2 := Lib.hid (Obol.qdias_w HU.out k)
                    by_cases hk4 : k < 4
                    · have x1 : x < 4 := by omega
                      have y1 := wrap_small (x := x + 1) (by omega) (by omega)
                      have y2 := wrap_small (x := x + 2) (by omega) (by omega)
                      have y3 := wrap_small (x := x + 3) (by omega) (by omega)
                      have t1 : (x + 1).tmod 4 = (x + 1) % 4 := Int.tmod_eq_emod_of_nonneg (by omega)
                      have t2 : (x + 2).tmod 4 = (x + 2) % 4 := Int.tmod_eq_emod_of_nonneg (by omega)
                      have t3 : (x + 3).tmod 4 = (x + 3) % 4 := Int.tmod_eq_emod_of_nonneg (by omega)
                      obtain ⟨m1, hm1⟩ : ∃ m : Int, (x + 1) % 4 = m := ⟨_, rfl⟩
                      obtain ⟨m2, hm2⟩ : ∃ m : Int, (x + 2) % 4 = m := ⟨_, rfl⟩
                      obtain ⟨m3, hm3⟩ : ∃ m : Int, (x + 3) % 4 = m := ⟨_, rfl⟩
                      have cQ := qMix b1 x (4 + m1) (8 + m2) (12 + m3) x0 (by omega) (by omega) (by omega) (by omega) (by omega) (by omega) (by omega) _ HU2.out wz RV.out
                      rw [show x.toNat = k by omega, show (4 + m1).toNat = 4 + (k + 1) % 4 by omega, show (8 + m2).toNat = 8 + (k + 2) % 4 by omega, show (12 + m3).toNat = 12 + (k + 3) % 4 by omega] at cQ
                      replace cQ := Lib.hid cQ
                      have y4 := wrap_small (x := 4 + m1) (by omega) (by omega)
                      have y8 := wrap_small (x := 8 + m2) (by omega) (by omega)
                      have y12 := wrap_small (x := 12 + m3) (by omega) (by omega)
                      go_wp2_with (go_at_call 104; refine cQ.out.mono ?_; rintro e w3 ⟨rfl, RN, hbN⟩)
                      have R' := Lib.hid (R.out.below hbN (by omega))
                      have B' := Lib.hid (B.out.trans (hbN.mono (by omega)))
                      replace RN := Lib.hid RN
                      clear hbN cQ
                      go_roundw
                      case rel => exact ⟨k + 1, by simp; omega, by omega, RN, R', B'⟩
                      case measure => simp [intOf]; omega
                    · obtain rfl : k = 4 := by omega
                      have x1 : ¬ x < 4 := by omega
                      have RN : Hid (Row wz b1 (u32s (Obol.qrnds (j + 1) F)) 112) := Lib.hid (by show Row wz b1 (u32s (Obol.qdias 4 (Obol.qcols 4 (Obol.qrnds j F)))) _; rw [hV.out, hU.out]; exact RV.out)
                      go_wp2
                      go_roundw
                      case rel => exact ⟨j + 1, by simp; omega, by omega, RN, R, B⟩
                      case measure => simp [intOf]; omega
            · obtain rfl : j = 10 := by omega
              have i1 : ¬ i < 10 := by omega
              generalize hV : Obol.qrnds 10 F = V at RV HV
              replace hV := Lib.hid hV
              have hn : (u32s V).size = 16 := u32s_n HV.out
              have hbw := B.out.size
              go_wp2_with (refine wpList_load_mid rfl _ _ rfl b1 0 rfl (u32s V).toList _ RV.out.range und53 rfl (by rw [siz53]; simp [hn]) ?_)
              rw [Array.toArray_toList]
              have hW16 := Lib.hid (Obol.fin_w V F)
              go_loopw [14, 84] (fun q1 q2 wq => ∃ k : Nat, q2 = .int .i64 (k : Int) ∧ k ≤ 16 ∧ Hid (OwnB wq wx.heap.size q1 (Obol.wordsB ((Obol.finL V F).take k))) ∧ Hid (Below wx.heap.size wx wq)) (fun _ q2 _ => (16 - intOf q2).toNat)
              case atStart => exact ⟨0, rfl, by omega, Lib.hid (OwnB.nil _ _), Lib.hid (Below.refl _ _)⟩
              case round =>
                rename World => wq
                obtain ⟨k, rfl, hk, hO, hbq⟩ := hrel
                have hbs2 := hbq.out.size
                obtain ⟨x, hx⟩ : ∃ i : Int, (k : Int) = i := ⟨_, rfl⟩
                rw [hx]
                by_cases hk8 : k < 16
                · have x0 : 0 ≤ x := by omega
                  have x1 : x < 16 := by omega
                  obtain ⟨vf, ef, lf, uf⟩ := word_at HF.out (i := x) x0 (by omega)
                  obtain ⟨vv, ev, lv, uv⟩ := word_at HV.out (i := x) x0 (by omega)
                  have cf : wq.cell? ⟨b0, x.toNat, none⟩ = some (.int .u32 vf) := (R.out.below hbq.out R.out.lt).cell x.toNat ((u32s_at HF.out x0 (by omega)).trans (by rw [ef]))
                  have hix := fun W => index_agg (P := Tryd.prog) 112 91 16 V HV.out Tryd.underlying112 Tryd.underlying91 info32 x0 (by omega) W
                  rw [ev] at hix
                  obtain ⟨z, hz⟩ : ∃ z : Int, (vv + vf) % 4294967296 = z := ⟨_, rfl⟩
                  have hZ : ((Obol.finL V F).getD k 0 : Nat) = z.toNat := by
                    rw [Obol.fin_get _ _ hk8, ← hz, show k = x.toNat by omega, add2_is ev ef]
                    exact (Int.toNat_natCast _).symm
                  have z0 : 0 ≤ z := by omega
                  have z1 : z ≤ 4294967295 := by omega
                  have hlk : (Obol.wordsB ((Obol.finL V F).take k)).length = 4 * k := by rw [wordsB_len, List.length_take, hW16.out.len]; omega
                  obtain ⟨v', w', hr, hO', hb', -, -⟩ := append_ownB (wq.alloc (.cells #[.int .u8 (z % 256), .int .u8 (z / 256 % 256), .int .u8 (z / 65536 % 256), .int .u8 (z / 16777216)] 5)) wx.heap.size _ _ (Obol.bytes4 z.toNat) (hO.out.below (bAlloc (Below.refl _ wq) _)) ⟨wq.heap.size, 0, none⟩ 4 4 rfl (news4 wq z0 z1) (by rw [hlk]; simp [Obol.bytes4]; omega) (by simp; omega)
                  rw [← hZ, ← wordsB_take (by rw [hW16.out.len]; exact hk8)] at hO'
                  have HO := Lib.hid hO'
                  have HQ := Lib.hid (hbq.out.trans (((Below.refl wx.heap.size wq).alloc hbs2 _).trans hb'))
                  clear hO' hb' hlk hO hbq hZ ev ef
                  go_wp2_with (at_builtin; refine wpList_appended rfl _ _ _ _ rfl _ _ _ rfl rfl hr ?_)
                  go_roundw
                  case rel => exact ⟨k + 1, by simp; omega, by omega, HO, HQ⟩
                  case measure => simp [intOf]; omega
                · obtain rfl : k = 16 := by omega
                  have x1 : ¬ x < 16 := by omega
                  have ht8 : (Obol.finL V F).take 16 = Obol.finL V F := List.take_of_length_le (by rw [hW16.out.len]; exact Nat.le_refl _)
                  rw [ht8] at hO
                  have hl64 : (Obol.wordsB (Obol.finL V F)).length = 64 := by rw [wordsB_len, hW16.out.len]
                  obtain ⟨gz, cz, cur, rfl, -, -, -, -, -, -⟩ := hO.out.size (by rw [hl64]; decide)
                  rw [hl64] at hO ⊢
                  have OZ := Lib.hid (hO.out.base (base' := w1.heap.size) hbw)
                  have BZ := Lib.hid (bThen B.out hbq.out B.out.size)
                  have eS : Hid (Obol.blkL K N count.toNat = Obol.wordsB (Obol.finL V F)) := Lib.hid (by
                    unfold Obol.blkL
                    rw [← hFF.out, hV.out])
                  clear hO hbq
                  go_wp2_with fail
                  go_ret2
                  exact ⟨gz, cz, rfl, by rw [eS.out]; exact OZ.out, BZ.out⟩

end Go.Proofs.YtallfmiikjmgaaaDoor
