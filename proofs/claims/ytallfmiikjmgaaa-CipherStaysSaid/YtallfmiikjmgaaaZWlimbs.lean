import Derived.Test.YtallfmiikjmgaaaZWlimb
set_option linter.unusedVariables false
set_option linter.unusedSimpArgs false
/- Walks: package cipher: all limbs of a number of 17 bytes. -/
namespace Obol
def limS (B : List Nat) : Nat → List Nat
  | 0 => [0, 0, 0, 0, 0]
  | j + 1 => (limS B j).set j (limbN B (26 * j))
def limbsN (B : List Nat) : List Nat := limS B 5
theorem limS_len (B : List Nat) : ∀ j, (limS B j).length = 5
  | 0 => rfl
  | j + 1 => by rw [limS, List.length_set, limS_len B j]
end Obol
namespace Go.Proofs.Ytallfmiikjmgaaa
open Go.RowKit

def u64s (L : List Nat) : Array Value := (L.map fun (n : Nat) => Value.int .u64 (n : Int)).toArray
theorem u64s_get {L : List Nat} (i : Nat) (hi : i < L.length) : (u64s L)[i]? = some (.int .u64 ((L.getD i 0 : Nat) : Int)) := by
  unfold u64s
  rw [List.getElem?_toArray, List.getElem?_map, List.getElem?_eq_getElem hi, List.getD_eq_getElem?_getD, List.getElem?_eq_getElem hi]
  rfl
theorem rowSetU {w : World} {k : Nat} {L : List Nat} {t : TypeId} (h : Row w k (u64s L) t) (i Z : Nat) {z : Int} (hz : z = (Z : Int)) : Row (w.setCell ⟨k, i, none⟩ (.int .u64 z)) k (u64s (L.set i Z)) t := by
  have e : (u64s L).setIfInBounds i (.int .u64 z) = u64s (L.set i Z) := by
    unfold u64s
    rw [List.setIfInBounds_toArray, List.map_set, hz]
  rw [← e]
  exact h.set i _
theorem u64s_n (L : List Nat) : (u64s L).size = L.length := by unfold u64s; simp
theorem u64s_one (L : List Nat) : (u64s L).all (·.oneCell') = true := by
  have : (u64s L).toList.toArray.all (·.oneCell') = true := all_oneCell_toArray (by unfold u64s; simp; intro v _; rfl)
  rwa [Array.toArray_toList] at this
theorem und5 : Try.prog.underlying 67 = some (.array 5 36) := by kernel_rfl
theorem siz5 : (Try.prog.info? 67).map (·.size) = some 5 := by kernel_rfl

set_option maxRecDepth 8000 in
set_option maxHeartbeats 4000000 in
theorem qLimbs (b : Nat) (B : List Nat) (HB0 : B8 17 B) (w : World) (hR : Row w b (u8s B) 66) :
    Calls Try.prog 33 #[.pointer (some ⟨b, 0, none⟩)] w fun e w' => e = .returned (.agg (u64s (Obol.limbsN B))) ∧ Below w.heap.size w w' := by
  have HB := Lib.hid HB0
  have RA := Lib.hid hR
  have hbl := hR.lt
  clear hR HB0
  go_enter Try.func33, Try.ntmps33
  go_wp2_with fail
  have R0 : Hid (Row ((w.alloc (.cells (u64s [0, 0, 0, 0, 0]) 67)).alloc (.cells (u64s [0, 0, 0, 0, 0]) 67)) w.heap.size (u64s [0, 0, 0, 0, 0]) 67) := Lib.hid ((Row.new w _ _).alloc _)
  have R1 : Hid (Row ((w.alloc (.cells (u64s [0, 0, 0, 0, 0]) 67)).alloc (.cells (u64s [0, 0, 0, 0, 0]) 67)) (w.heap.size + 1) (u64s (Obol.limS B 0)) 67) := Lib.hid (Row.new1 w _ _ _)
  have B0 : Hid (Below w.heap.size w ((w.alloc (.cells (u64s [0, 0, 0, 0, 0]) 67)).alloc (.cells (u64s [0, 0, 0, 0, 0]) 67))) := Lib.hid (bAlloc (bAlloc (Below.refl _ _) _) _)
  change Code.wp _ _ _ _ ((w.alloc (.cells (u64s [0, 0, 0, 0, 0]) 67)).alloc (.cells (u64s [0, 0, 0, 0, 0]) 67))
  generalize (w.alloc (.cells (u64s [0, 0, 0, 0, 0]) 67)).alloc (.cells (u64s [0, 0, 0, 0, 0]) 67) = w1 at R0 R1 B0 ⊢
  obtain ⟨b1, hb1⟩ : ∃ x, w.heap.size + 1 = x := ⟨_, rfl⟩
  obtain ⟨b0, hb0⟩ : ∃ x, w.heap.size = x := ⟨_, rfl⟩
  rw [hb1] at R1 ⊢
  rw [hb0] at R0 hbl ⊢
  have hb01 : b0 < b1 := by omega
  replace hb1 := Lib.hid hb1
  replace hb0 := Lib.hid hb0
  go_loopw [5] (fun q1 wr => ∃ j : Nat, q1 = .int .i64 (j : Int) ∧ j ≤ 5 ∧ Hid (Row wr b0 (u64s [0, 0, 0, 0, 0]) 67) ∧ Hid (Row wr b1 (u64s (Obol.limS B j)) 67) ∧ Hid (Below w.heap.size w wr)) (fun q1 _ => (5 - intOf q1).toNat)
  case atStart => exact ⟨0, rfl, by omega, R0, R1, B0⟩
  case round =>
    clear R0 R1 B0
    rename World => wr
    obtain ⟨j, rfl, hj, R0, R1, BE⟩ := hrel
    obtain ⟨i, hi⟩ : ∃ i : Int, (j : Int) = i := ⟨_, rfl⟩
    rw [hi]
    have i0 : 0 ≤ i := by omega
    by_cases hj5 : j < 5
    · have i1 : i < 5 := by omega
      have hw := wrap_small (x := 26 * i) (by omega) (by omega)
      have cL := qLimb b B HB.out (26 * i) (26 * i / 8) (by omega) (by omega) (by omega) wr (RA.out.below BE.out (by rw [hb0.out]; exact hbl))
      rw [show (26 * i).toNat = 26 * j by omega] at cL
      replace cL := Lib.hid cL
      have f := R1.out.free i.toNat
      have c := R1.out.cell i.toNat (u64s_get i.toNat (by rw [Obol.limS_len]; omega))
      have hit := Lib.hid (show i.toNat = j by omega)
      go_wp2_with (go_at_call 74; refine cL.out.mono ?_; rintro e w3 ⟨rfl, n, rfl⟩)
      have RN := Lib.hid (rowSetU (R1.out.drewN n) i.toNat _ (rfl : ((Obol.limbN B (26 * j) : Nat) : Int) = _))
      have RN0 : Hid (Row ((wr.drewN n).setCell ⟨b1, i.toNat, none⟩ (.int .u64 ((Obol.limbN B (26 * j) : Nat) : Int))) b0 (u64s [0, 0, 0, 0, 0]) 67) := Lib.hid ((R0.out.drewN n).other (by omega))
      have BN := Lib.hid (bSet (bDrewN BE.out n) (b := b1) (o := i.toNat) (u := .int .u64 ((Obol.limbN B (26 * j) : Nat) : Int)) (by rw [hb0.out]; omega))
      go_roundw
      case rel => exact ⟨j + 1, by simp; omega, by omega, RN0, by show Hid (Row _ _ (u64s ((Obol.limS B j).set j (Obol.limbN B (26 * j)))) _); rw [hit.out] at RN ⊢; exact RN, BN⟩
      case measure => simp [intOf]; omega
    · obtain rfl : j = 5 := by omega
      have i1 : ¬ i < 5 := by omega
      have hL := Obol.limS_len B 5
      generalize hV : Obol.limS B 5 = V at R1 hL
      have hn : (u64s V).size = 5 := by rw [u64s_n, hL]
      have h1 : (u64s V).toList.toArray.all (·.oneCell') = true := by rw [Array.toArray_toList]; exact u64s_one V
      have hth : wr.there b0 0 (u64s V).toList.toArray.size := by rw [Array.toArray_toList, hn, ← (show (u64s [0, 0, 0, 0, 0]).size = 5 from rfl)]; exact R0.out.there
      replace hV := Lib.hid hV
      go_wp2_with (first | (refine wpList_load_mid rfl _ _ rfl b1 0 rfl (u64s V).toList _ R1.out.range und5 rfl (by rw [siz5]; simp [hn]) ?_) | (refine wpList_store_mid rfl _ _ _ rfl b0 0 (u64s V).toList.toArray rfl rfl hth (by rw [siz5]; simp [hn]) h1 ?_))
      have RZ : Row (wr.setCells b0 0 (u64s V).toList.toArray.toList) b0 (u64s V) 67 := by rw [Array.toArray_toList]; exact R0.out.store (u64s V) (by rw [hn]; rfl)
      refine bodyPost_ret (v := .agg (u64s V)) (results_row rfl _ rfl RZ und5 rfl (by rw [siz5, hn])) rfl ⟨by rw [← hV.out]; rfl, ?_⟩
      exact bSetMany (by rw [hb0.out]; exact Nat.le_refl _) _ _ _ BE.out

end Go.Proofs.Ytallfmiikjmgaaa
