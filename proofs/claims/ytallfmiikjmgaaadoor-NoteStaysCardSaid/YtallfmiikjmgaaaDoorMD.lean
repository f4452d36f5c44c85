import Derived.Test.YtallfmiikjmgaaaDoorZWblk
import Derived.Test.YtallfmiikjmgaaaDoorMB
import Derived.Test.YtallfmiikjmgaaaDoorZWpress
import Derived.Test.YtallfmiikjmgaaaDoorMA
set_option linter.unusedVariables false
set_option linter.unusedSimpArgs false
/- Walks: package cipher: numbers of 17 bytes in limbs of 26 bits. -/
namespace Obol
/-- So many bytes from one on, the lowest first. -/
def partN (B : List Nat) (q : Nat) : Nat → Nat
  | 0 => 0
  | k + 1 => partN B q k + B.getD (q + k) 0 * 256 ^ k
def limbN (B : List Nat) (at' : Nat) : Nat := partN B (at' / 8) 4 / 2 ^ (at' % 8) % 67108864
end Obol
namespace Go.Proofs.YtallfmiikjmgaaaDoor
open Go.RowKit

theorem or_up (k : Nat) (hk : k ≤ 24) {p c : Int} (p0 : 0 ≤ p) (p1 : p < 2 ^ k) (c0 : 0 ≤ c) (c1 : c ≤ 255) : bits .or .u64 p (c * 2 ^ k) = p + c * 2 ^ k := by
  obtain ⟨P, rfl⟩ := Int.eq_ofNat_of_zero_le p0
  obtain ⟨C, rfl⟩ := Int.eq_ofNat_of_zero_le c0
  have hP : P < 2 ^ k := by
    have e : ((2 ^ k : Nat) : Int) = 2 ^ k := by rw [Int.natCast_pow]; rfl
    omega
  have hk2 : 2 ^ k ≤ 2 ^ 24 := Nat.pow_le_pow_right (by decide) hk
  have hC : C * 2 ^ k ≤ 255 * 2 ^ 24 := Nat.mul_le_mul (by omega) hk2
  have e2 : ((C : Int) * 2 ^ k) = ((C * 2 ^ k : Nat) : Int) := by rw [Int.natCast_mul, Int.natCast_pow]; rfl
  have h := Nat.two_pow_add_eq_or_of_lt hP C
  rw [e2, u64_or_nat _ _ (by omega) (by omega), Nat.or_comm, Nat.mul_comm C, ← h]
  omega
theorem and_26 {n : Int} (h0 : 0 ≤ n) (h1 : n ≤ 18446744073709551615) : bits .and .u64 n 67108863 = n % 67108864 := by
  obtain ⟨N, rfl⟩ := Int.eq_ofNat_of_zero_le h0
  have e : (67108863 : Int) = ((2 ^ 26 - 1 : Nat) : Int) := by decide
  rw [e, u64_and_nat _ _ (by omega) (by decide), Nat.and_two_pow_sub_one_eq_mod]
  omega

set_option maxRecDepth 8000 in
set_option maxHeartbeats 8000000 in
theorem qLimb (b : Nat) (B : List Nat) (HB0 : B8 17 B) (t Q : Int) (hs0 : t = 8 * Q ∨ t = 8 * Q + 2 ∨ t = 8 * Q + 4 ∨ t = 8 * Q + 6) (q0 : 0 ≤ Q) (q1 : Q ≤ 13) (w : World) (hR : Row w b (u8s B) 126) :
    Calls Tryd.prog 113 #[.pointer (some ⟨b, 0, none⟩), .int .i64 t] w fun e w' => e = .returned (.int .u64 ((Obol.limbN B t.toNat : Nat) : Int)) ∧ ∃ n, w' = w.drewN n := by
  have HB := Lib.hid HB0
  have R := Lib.hid hR
  have hq : t.tdiv 8 = Q := by rw [Int.tdiv_eq_ediv_of_nonneg (by omega)]; omega
  have hwt : IntKind.i64.wrap (t + 25) = t + 25 := wrap_small (by omega) (by omega)
  have hq2 : (t + 25).tdiv 8 = Q + 3 := by rw [Int.tdiv_eq_ediv_of_nonneg (by omega)]; omega
  have t0 : 0 ≤ t := by omega
  have hB := HB0.lt
  have hv0 := hB (Q.toNat + 0)
  have hv1 := hB (Q.toNat + 1)
  have hv2 := hB (Q.toNat + 2)
  have hv3 := hB (Q.toNat + 3)
  obtain ⟨a0, e0⟩ : ∃ a : Int, ((B.getD (Q.toNat + 0) 0 : Nat) : Int) = a := ⟨_, rfl⟩
  obtain ⟨a1, e1⟩ : ∃ a : Int, ((B.getD (Q.toNat + 1) 0 : Nat) : Int) = a := ⟨_, rfl⟩
  obtain ⟨a2, e2⟩ : ∃ a : Int, ((B.getD (Q.toNat + 2) 0 : Nat) : Int) = a := ⟨_, rfl⟩
  obtain ⟨a3, e3⟩ : ∃ a : Int, ((B.getD (Q.toNat + 3) 0 : Nat) : Int) = a := ⟨_, rfl⟩
  have hL : Hid (((Obol.limbN B t.toNat : Nat) : Int) = (a0 + a1 * 256 + a2 * 65536 + a3 * 16777216) / 2 ^ (t.toNat % 8) % 67108864) := Lib.hid (by
    have h1 : Obol.partN B Q.toNat 4 = 0 + B.getD (Q.toNat + 0) 0 * 1 + B.getD (Q.toNat + 1) 0 * 256 + B.getD (Q.toNat + 2) 0 * 65536 + B.getD (Q.toNat + 3) 0 * 16777216 := rfl
    have h2 : a0 + a1 * 256 + a2 * 65536 + a3 * 16777216 = ((Obol.partN B Q.toNat 4 : Nat) : Int) := by rw [h1, ← e0, ← e1, ← e2, ← e3]; omega
    rw [h2]
    unfold Obol.limbN
    rw [show t.toNat / 8 = Q.toNat by omega]
    rw [Int.natCast_emod, Int.natCast_ediv, Int.natCast_pow]
    rfl)
  have c0 := R.out.cell Q.toNat (v := .int .u8 a0) ((u8s_get B Q.toNat (by rw [HB0.len]; omega)).trans (by rw [← e0]; rfl))
  have c1 := R.out.cell (Q + 1).toNat (v := .int .u8 a1) ((u8s_get B (Q + 1).toNat (by rw [HB0.len]; omega)).trans (by rw [← e1, show (Q + 1).toNat = Q.toNat + 1 by omega]))
  have c2 := R.out.cell (Q + 2).toNat (v := .int .u8 a2) ((u8s_get B (Q + 2).toNat (by rw [HB0.len]; omega)).trans (by rw [← e2, show (Q + 2).toNat = Q.toNat + 2 by omega]))
  have c3 := R.out.cell (Q + 3).toNat (v := .int .u8 a3) ((u8s_get B (Q + 3).toNat (by rw [HB0.len]; omega)).trans (by rw [← e3, show (Q + 3).toNat = Q.toNat + 3 by omega]))
  have z0 : 0 ≤ a0 ∧ a0 ≤ 255 := by omega
  have z1 : 0 ≤ a1 ∧ a1 ≤ 255 := by omega
  have z2 : 0 ≤ a2 ∧ a2 ≤ 255 := by omega
  have z3 : 0 ≤ a3 ∧ a3 ≤ 255 := by omega
  have k0 : bits .or .u64 0 a0 = a0 := by
    have h := or_up 0 (by decide) (p := 0) (c := a0) (by omega) (by decide) z0.1 z0.2
    simpa using h
  have k1 : bits .or .u64 a0 (a1 * 256) = a0 + a1 * 256 := or_up 8 (by decide) z0.1 (by omega) z1.1 z1.2
  have k2 : bits .or .u64 (a0 + a1 * 256) (a2 * 65536) = a0 + a1 * 256 + a2 * 65536 := or_up 16 (by decide) (by omega) (by omega) z2.1 z2.2
  have k3 : bits .or .u64 (a0 + a1 * 256 + a2 * 65536) (a3 * 16777216) = a0 + a1 * 256 + a2 * 65536 + a3 * 16777216 := or_up 24 (by decide) (by omega) (by omega) z3.1 z3.2
  have d0 : Q - Q = 0 := by omega
  have d1 : Q + 1 - Q = 1 := by omega
  have d2 : Q + 2 - Q = 2 := by omega
  have d3 : Q + 3 - Q = 3 := by omega
  have w1 : IntKind.i64.wrap (Q + 1) = Q + 1 := wrap_small (by omega) (by omega)
  have w2 : IntKind.i64.wrap (Q + 1 + 1) = Q + 2 := (wrap_small (by omega) (by omega)).trans (by omega)
  have w3 : IntKind.i64.wrap (Q + 2 + 1) = Q + 3 := (wrap_small (by omega) (by omega)).trans (by omega)
  have w4 : IntKind.i64.wrap (Q + 3 + 1) = Q + 4 := (wrap_small (by omega) (by omega)).trans (by omega)
  have y0 : Q < 17 := by omega
  have y1 : Q + 1 < 17 := by omega
  have y2 : Q + 2 < 17 := by omega
  have y3 : Q + 3 < 17 := by omega
  have y4 : ¬ Q + 4 ≤ Q + 3 := by omega
  have r0 : 0 ≤ Q + 1 := by omega
  have r2 : 0 ≤ Q + 2 := by omega
  have r3 : 0 ≤ Q + 3 := by omega
  clear e0 e1 e2 e3 hv0 hv1 hv2 hv3 hB HB0 hR
  have hp := Lib.hid (show Q = Q from rfl)
  go_enter Tryd.func113, Tryd.ntmps113
  go_wp2_with fail
  go_loopw [5, 6] (fun q1 q2 wr => wr = w ∧ ((q1 = .int .u64 0 ∧ q2 = .int .i64 Q) ∨ (q1 = .int .u64 a0 ∧ q2 = .int .i64 (Q + 1)) ∨ (q1 = .int .u64 (a0 + a1 * 256) ∧ q2 = .int .i64 (Q + 2)) ∨ (q1 = .int .u64 (a0 + a1 * 256 + a2 * 65536) ∧ q2 = .int .i64 (Q + 3)) ∨ (q1 = .int .u64 (a0 + a1 * 256 + a2 * 65536 + a3 * 16777216) ∧ q2 = .int .i64 (Q + 4)))) (fun _ q2 _ => (Q + 4 - intOf q2).toNat)
  case atStart => exact ⟨rfl, Or.inl ⟨rfl, rfl⟩⟩
  case round =>
    obtain ⟨rfl, hrel⟩ := hrel
    rcases hrel with ⟨rfl, rfl⟩ | ⟨rfl, rfl⟩ | ⟨rfl, rfl⟩ | ⟨rfl, rfl⟩ | ⟨rfl, rfl⟩
    · go_wp2_with fail
      go_roundw
      case rel => exact ⟨by trivial, Or.inr (Or.inl ⟨by first | rfl | trivial, by first | rfl | trivial⟩)⟩
      case measure => first | (simp [intOf]; omega) | simp [intOf]
    · go_wp2_with fail
      go_roundw
      case rel => exact ⟨by trivial, Or.inr (Or.inr (Or.inl ⟨by first | rfl | trivial, by first | rfl | trivial⟩))⟩
      case measure => first | (simp [intOf]; omega) | simp [intOf]
    · go_wp2_with fail
      go_roundw
      case rel => exact ⟨by trivial, Or.inr (Or.inr (Or.inr (Or.inl ⟨by first | rfl | trivial, by first | rfl | trivial⟩)))⟩
      case measure => first | (simp [intOf]; omega) | simp [intOf]
    · go_wp2_with fail
      go_roundw
      case rel => exact ⟨by trivial, Or.inr (Or.inr (Or.inr (Or.inr ⟨by first | rfl | trivial, by first | rfl | trivial⟩)))⟩
      case measure => first | (simp [intOf]; omega) | simp [intOf]
    · obtain ⟨n, hn⟩ : ∃ n : Int, a0 + a1 * 256 + a2 * 65536 + a3 * 16777216 = n := ⟨_, rfl⟩
      have n0 : 0 ≤ n := by omega
      have n1 : n ≤ 4294967295 := by omega
      rw [hn] at hL ⊢
      clear hn k3 k2 k1 k0 c0 c1 c2 c3
      have m0 : t.tmod 8 = t - 8 * Q := by rw [Int.tmod_eq_emod_of_nonneg t0]; omega
      obtain ⟨s, hs⟩ : ∃ s : Int, t - 8 * Q = s := ⟨_, rfl⟩
      have hst : t.toNat % 8 = s.toNat := by omega
      rw [hst] at hL
      rw [hs] at m0
      have hs3 : s = 0 ∨ s = 2 ∨ s = 4 ∨ s = 6 := by omega
      clear hs hst hs0
      rcases hs3 with rfl | rfl | rfl | rfl
      · have u0 := and_26 (n := n) n0 (by omega)
        by_cases hQ : Q + 4 < 17 <;> (go_wp2_with fail; go_ret; exact ⟨by rw [hL.out]; simp, 0, rfl⟩)
      · have u0 := and_26 (n := n / 4) (by omega) (by omega)
        by_cases hQ : Q + 4 < 17 <;> (go_wp2_with fail; go_ret; exact ⟨by rw [hL.out]; rfl, 0, rfl⟩)
      · have u0 := and_26 (n := n / 16) (by omega) (by omega)
        by_cases hQ : Q + 4 < 17 <;> (go_wp2_with fail; go_ret; exact ⟨by rw [hL.out]; rfl, 0, rfl⟩)
      · have u0 := and_26 (n := n / 64) (by omega) (by omega)
        by_cases hQ : Q + 4 < 17 <;> (go_wp2_with fail; go_ret; exact ⟨by rw [hL.out]; rfl, 0, rfl⟩)

end Go.Proofs.YtallfmiikjmgaaaDoor
/- Walks: package cipher: all limbs of a number of 17 bytes. -/
namespace Obol
def limS (B : List Nat) : Nat → List Nat
  | 0 => [0, 0, 0, 0, 0]
  | j + 1 => (limS B j).set j (limbN B (26 * j))
def limbsN (B : List Nat) : List Nat := limS B 5
theorem limS_len (B : List Nat) : ∀ j, (limS B j).length = 5
  | 0 => rfl
  | j + 1 => by rw [limS, List.length_set, limS_len B j]
end Obol
namespace Go.Proofs.YtallfmiikjmgaaaDoor
open Go.RowKit

def u64s (L : List Nat) : Array Value := (L.map fun (n : Nat) => Value.int .u64 (n : Int)).toArray
theorem u64s_get {L : List Nat} (i : Nat) (hi : i < L.length) : (u64s L)[i]? = some (.int .u64 ((L.getD i 0 : Nat) : Int)) := by
  unfold u64s
  rw [List.getElem?_toArray, List.getElem?_map, List.getElem?_eq_getElem hi, List.getD_eq_getElem?_getD, List.getElem?_eq_getElem hi]
  rfl
theorem rowSetU {w : World} {k : Nat} {L : List Nat} {t : TypeId} (h : Row w k (u64s L) t) (i Z : Nat) {z : Int} (hz : z = (Z : Int)) : Row (w.setCell ⟨k, i, none⟩ (.int .u64 z)) k (u64s (L.set i Z)) t := by
  have e : (u64s L).setIfInBounds i (.int .u64 z) = u64s (L.set i Z) := by
    unfold u64s
    rw [List.setIfInBounds_toArray, List.map_set, hz]
  rw [← e]
  exact h.set i _
theorem u64s_n (L : List Nat) : (u64s L).size = L.length := by unfold u64s; simp
theorem u64s_one (L : List Nat) : (u64s L).all (·.oneCell') = true := by
  have : (u64s L).toList.toArray.all (·.oneCell') = true := all_oneCell_toArray (by unfold u64s; simp; intro v _; rfl)
  rwa [Array.toArray_toList] at this
theorem und5 : Tryd.prog.underlying 127 = some (.array 5 22) := by kernel_rfl
theorem siz5 : (Tryd.prog.info? 127).map (·.size) = some 5 := by kernel_rfl

set_option maxRecDepth 8000 in
set_option maxHeartbeats 4000000 in
theorem qLimbs (b : Nat) (B : List Nat) (HB0 : B8 17 B) (w : World) (hR : Row w b (u8s B) 126) :
    Calls Tryd.prog 105 #[.pointer (some ⟨b, 0, none⟩)] w fun e w' => e = .returned (.agg (u64s (Obol.limbsN B))) ∧ Below w.heap.size w w' := by
  have HB := Lib.hid HB0
  have RA := Lib.hid hR
  have hbl := hR.lt
  clear hR HB0
  go_enter Tryd.func105, Tryd.ntmps105
  go_wp2_with fail
  have R0 : Hid (Row ((w.alloc (.cells (u64s [0, 0, 0, 0, 0]) 127)).alloc (.cells (u64s [0, 0, 0, 0, 0]) 127)) w.heap.size (u64s [0, 0, 0, 0, 0]) 127) := Lib.hid ((Row.new w _ _).alloc _)
  have R1 : Hid (Row ((w.alloc (.cells (u64s [0, 0, 0, 0, 0]) 127)).alloc (.cells (u64s [0, 0, 0, 0, 0]) 127)) (w.heap.size + 1) (u64s (Obol.limS B 0)) 127) := Lib.hid (Row.new1 w _ _ _)
  have B0 : Hid (Below w.heap.size w ((w.alloc (.cells (u64s [0, 0, 0, 0, 0]) 127)).alloc (.cells (u64s [0, 0, 0, 0, 0]) 127))) := Lib.hid (bAlloc (bAlloc (Below.refl _ _) _) _)
  change Code.wp _ _ _ _ ((w.alloc (.cells (u64s [0, 0, 0, 0, 0]) 127)).alloc (.cells (u64s [0, 0, 0, 0, 0]) 127))
  generalize (w.alloc (.cells (u64s [0, 0, 0, 0, 0]) 127)).alloc (.cells (u64s [0, 0, 0, 0, 0]) 127) = w1 at R0 R1 B0 ⊢
  obtain ⟨b1, hb1⟩ : ∃ x, w.heap.size + 1 = x := ⟨_, rfl⟩
  obtain ⟨b0, hb0⟩ : ∃ x, w.heap.size = x := ⟨_, rfl⟩
  rw [hb1] at R1 ⊢
  rw [hb0] at R0 hbl ⊢
  have hb01 : b0 < b1 := by omega
  replace hb1 := Lib.hid hb1
  replace hb0 := Lib.hid hb0
  go_loopw [5] (fun q1 wr => ∃ j : Nat, q1 = .int .i64 (j : Int) ∧ j ≤ 5 ∧ Hid (Row wr b0 (u64s [0, 0, 0, 0, 0]) 127) ∧ Hid (Row wr b1 (u64s (Obol.limS B j)) 127) ∧ Hid (Below w.heap.size w wr)) (fun q1 _ => (5 - intOf q1).toNat)
  case atStart => exact ⟨0, rfl, by omega, R0, R1, B0⟩
  case round =>
    clear R0 R1 B0
    rename World => wr
    obtain ⟨j, rfl, hj, R0, R1, BE⟩ := hrel
    obtain ⟨i, hi⟩ : ∃ i : Int, (j : Int) = i := ⟨_, rfl⟩
    rw [hi]
    have i0 : 0 ≤ i := by omega
    by_cases hj5 : j < 5
    · have i1 : i < 5 := by omega
      have hw := wrap_small (x := 26 * i) (by omega) (by omega)
      have cL := qLimb b B HB.out (26 * i) (26 * i / 8) (by omega) (by omega) (by omega) wr (RA.out.below BE.out (by rw [hb0.out]; exact hbl))
      rw [show (26 * i).toNat = 26 * j by omega] at cL
      replace cL := Lib.hid cL
      have f := R1.out.free i.toNat
      have c := R1.out.cell i.toNat (u64s_get i.toNat (by rw [Obol.limS_len]; omega))
      have hit := Lib.hid (show i.toNat = j by omega)
      go_wp2_with (go_at_call 113; refine cL.out.mono ?_; rintro e w3 ⟨rfl, n, rfl⟩)
      have RN := Lib.hid (rowSetU (R1.out.drewN n) i.toNat _ (rfl : ((Obol.limbN B (26 * j) : Nat) : Int) = _))
      have RN0 : Hid (Row ((wr.drewN n).setCell ⟨b1, i.toNat, none⟩ (.int .u64 ((Obol.limbN B (26 * j) : Nat) : Int))) b0 (u64s [0, 0, 0, 0, 0]) 127) := Lib.hid ((R0.out.drewN n).other (by omega))
      have BN := Lib.hid (bSet (bDrewN BE.out n) (b := b1) (o := i.toNat) (u := .int .u64 ((Obol.limbN B (26 * j) : Nat) : Int)) (by rw [hb0.out]; omega))
      go_roundw
      case rel => exact ⟨j + 1, by simp; omega, by omega, RN0, by show Hid (Row _ _ (u64s ((Obol.limS B j).set j (Obol.limbN B (26 * j)))) _); rw [hit.out] at RN ⊢; exact RN, BN⟩
      case measure => simp [intOf]; omega
    · obtain rfl : j = 5 := by omega
      have i1 : ¬ i < 5 := by omega
      have hL := Obol.limS_len B 5
      generalize hV : Obol.limS B 5 = V at R1 hL
      have hn : (u64s V).size = 5 := by rw [u64s_n, hL]
      have h1 : (u64s V).toList.toArray.all (·.oneCell') = true := by rw [Array.toArray_toList]; exact u64s_one V
      have hth : wr.there b0 0 (u64s V).toList.toArray.size := by rw [Array.toArray_toList, hn, ← (show (u64s [0, 0, 0, 0, 0]).size = 5 from rfl)]; exact R0.out.there
      replace hV := Lib.hid hV
      go_wp2_with (first | (refine wpList_load_mid rfl _ _ rfl b1 0 rfl (u64s V).toList _ R1.out.range und5 rfl (by rw [siz5]; simp [hn]) ?_) | (refine wpList_store_mid rfl _ _ _ rfl b0 0 (u64s V).toList.toArray rfl rfl hth (by rw [siz5]; simp [hn]) h1 ?_))
      have RZ : Row (wr.setCells b0 0 (u64s V).toList.toArray.toList) b0 (u64s V) 127 := by rw [Array.toArray_toList]; exact R0.out.store (u64s V) (by rw [hn]; rfl)
      refine bodyPost_ret (v := .agg (u64s V)) (results_row rfl _ rfl RZ und5 rfl (by rw [siz5, hn])) rfl ⟨by rw [← hV.out]; rfl, ?_⟩
      exact bSetMany (by rw [hb0.out]; exact Nat.le_refl _) _ _ _ BE.out

end Go.Proofs.YtallfmiikjmgaaaDoor
/- Plain: the product of two numbers in limbs; the carries. Walks' helps. -/
namespace Obol
def mstep (a r d : List Nat) (i k : Nat) : List Nat :=
  if i + k < 5 then d.set (i + k) (d.getD (i + k) 0 + a.getD i 0 * r.getD k 0) else d.set (i + k - 5) (d.getD (i + k - 5) 0 + 5 * (a.getD i 0 * r.getD k 0))
def mrow (a r d : List Nat) (i : Nat) : Nat → List Nat
  | 0 => d
  | k + 1 => mstep a r (mrow a r d i k) i k
def mall (a r : List Nat) : Nat → List Nat
  | 0 => [0, 0, 0, 0, 0]
  | i + 1 => mrow a r (mall a r i) i 5
def cpass (d : List Nat) : Nat → List Nat × Nat
  | 0 => (d, 0)
  | j + 1 => ((cpass d j).1.set j (((cpass d j).1.getD j 0 + (cpass d j).2) % 67108864), ((cpass d j).1.getD j 0 + (cpass d j).2) / 67108864)
def fold1 (d : List Nat) : List Nat := (cpass d 5).1.set 0 ((cpass d 5).1.getD 0 0 + 5 * (cpass d 5).2)
def timesL (a r : List Nat) : List Nat := fold1 (fold1 (mall a r 5))
/-- Five limbs, none above a bound. -/
structure LB (M : Nat) (d : List Nat) : Prop where
  len : d.length = 5
  le : ∀ i, d.getD i 0 ≤ M
theorem LB.put {M N : Nat} {d : List Nat} (h : LB M d) (hN : M ≤ N) (i v : Nat) (hv : v ≤ N) : LB N (d.set i v) := ⟨by rw [List.length_set]; exact h.len, fun j => by
  rw [List.getD_eq_getElem?_getD, List.getElem?_set]
  split
  · split
    · exact hv
    · exact Nat.zero_le _
  · rw [← List.getD_eq_getElem?_getD]; exact Nat.le_trans (h.le j) hN⟩
theorem mul_le {x y : Nat} (hx : x ≤ 268435456) (hy : y ≤ 67108863) : x * y ≤ 18014398241046528 := Nat.mul_le_mul hx hy
theorem mstep_b {a r d : List Nat} (ha : LB 268435456 a) (hr : LB 67108863 r) {c : Nat} (h : LB (c * 90071992547409920) d) (i k : Nat) : LB ((c + 1) * 90071992547409920) (mstep a r d i k) := by
  have hm := mul_le (ha.le i) (hr.le k)
  unfold mstep
  split
  · exact h.put (by omega) _ _ (by have := h.le (i + k); omega)
  · exact h.put (by omega) _ _ (by have := h.le (i + k - 5); omega)
theorem mrow_b {a r d : List Nat} (ha : LB 268435456 a) (hr : LB 67108863 r) {c : Nat} (h : LB (c * 90071992547409920) d) (i : Nat) : ∀ k, LB ((c + k) * 90071992547409920) (mrow a r d i k)
  | 0 => h
  | k + 1 => mstep_b ha hr (mrow_b ha hr h i k) i k
theorem zero5_b : LB 0 [0, 0, 0, 0, 0] := ⟨rfl, fun i => by match i with | 0 => decide | 1 => decide | 2 => decide | 3 => decide | 4 => decide | n + 5 => simp⟩
theorem mall_b {a r : List Nat} (ha : LB 268435456 a) (hr : LB 67108863 r) : ∀ i, LB (5 * i * 90071992547409920) (mall a r i)
  | 0 => by show LB (5 * 0 * 90071992547409920) [0, 0, 0, 0, 0]; exact zero5_b
  | i + 1 => mrow_b ha hr (mall_b ha hr i) i 5
def foldN (d : List Nat) : Nat → List Nat
  | 0 => d
  | n + 1 => fold1 (foldN d n)
theorem cpass_b {d : List Nat} {M : Nat} (h : LB M d) (hM : 67108864 ≤ M) (hM2 : M ≤ 3000000000000000000) : ∀ j, LB M (cpass d j).1 ∧ (cpass d j).2 ≤ 50000000000
  | 0 => ⟨h, Nat.zero_le _⟩
  | j + 1 => by
    obtain ⟨h1, h2⟩ := cpass_b h hM hM2 j
    have h3 := h1.le j
    refine ⟨h1.put (Nat.le_refl _) _ _ ?_, ?_⟩
    · have := Nat.mod_lt ((cpass d j).1.getD j 0 + (cpass d j).2) (show 0 < 67108864 by decide)
      omega
    · show ((cpass d j).1.getD j 0 + (cpass d j).2) / 67108864 ≤ 50000000000
      omega
theorem fold1_b {d : List Nat} {M : Nat} (h : LB M d) (hM : 67108864 ≤ M) (hM2 : M ≤ 3000000000000000000) : LB (M + 250000000000) (fold1 d) := by
  obtain ⟨h1, h2⟩ := cpass_b h hM hM2 5
  exact h1.put (by omega) _ _ (by have := h1.le 0; omega)
theorem foldN_b {d : List Nat} (h : LB 2251799813685248000 d) : ∀ n, n ≤ 2 → LB (2251799813685248000 + n * 250000000000) (foldN d n)
  | 0, _ => h
  | n + 1, hn => by
    have h1 := fold1_b (foldN_b h n (by omega)) (by omega) (by omega)
    rw [show 2251799813685248000 + (n + 1) * 250000000000 = 2251799813685248000 + n * 250000000000 + 250000000000 by omega]
    exact h1
/-- What five limbs say. -/
def valL (d : List Nat) : Nat := d.getD 0 0 + d.getD 1 0 * 67108864 + d.getD 2 0 * 4503599627370496 + d.getD 3 0 * 302231454903657293676544 + d.getD 4 0 * 20282409603651670423947251286016
end Obol
namespace Go.Proofs.YtallfmiikjmgaaaDoor
open Go.RowKit

theorem index_agg5 {P : Program} (t e : TypeId) (N : Nat) (L : List Nat) (H : L.length = N) (ht : P.underlying t = some (.array N e)) (hu : P.underlying e = some (.int .u64)) (he : (P.info? e).map (fun i => (i.zero, i.size, i.bytes)) = some (some (.int .u64 0), 1, 8)) {i : Int} (h0 : 0 ≤ i) (h1 : i < N) (W : World) :
    (Instr.index t (.agg (u64s L)) (.int .i64 i)).run P W = .ok (.int .u64 ((L.getD i.toNat 0 : Nat) : Int)) W := by
  obtain ⟨q, hi, _, hs, _⟩ : ∃ q, P.info? e = some q ∧ q.zero = some (.int .u64 0) ∧ q.size = 1 ∧ q.bytes = 8 := by
    cases hq : P.info? e with
    | none => rw [hq] at he; simp at he
    | some q => rw [hq] at he; simp at he; exact ⟨q, rfl, he.1, he.2.1, he.2.2⟩
  have hx := u64s_get (L := L) i.toNat (by omega)
  simp [Instr.index, asIntOf, isAgg, run_underlying ht, run_underlying hu, Go.sizeOf, typeInfo, hi, hs, Result.andThen, h0, h1, part, hx]
theorem undU : Tryd.prog.underlying 22 = some (.int .u64) := by kernel_rfl
theorem infoU : (Tryd.prog.info? 22).map (fun i => (i.zero, i.size, i.bytes)) = some (some (.int .u64 0), 1, 8) := by kernel_rfl

end Go.Proofs.YtallfmiikjmgaaaDoor
/- Walks: package cipher: the product of two numbers in limbs (cipher.times). -/
namespace Obol
theorem mstep_lo {a r d : List Nat} {i k : Nat} (h : i + k < 5) : mstep a r d i k = d.set (i + k) (d.getD (i + k) 0 + a.getD i 0 * r.getD k 0) := if_pos h
theorem mstep_hi {a r d : List Nat} {i k : Nat} (h : ¬ i + k < 5) : mstep a r d i k = d.set (i + k - 5) (d.getD (i + k - 5) 0 + 5 * (a.getD i 0 * r.getD k 0)) := if_neg h
end Obol
namespace Go.Proofs.YtallfmiikjmgaaaDoor
open Go.RowKit

theorem u64w {x : Int} (h0 : 0 ≤ x) (h1 : x ≤ 18446744073709551615) : IntKind.u64.wrap x = x := by rw [IntKind.wrap_u64]; omega
theorem HR.setU {w w1 : World} {rs : List (Nat × Array Value × TypeId)} {D : Nat} {L : List Nat} {t : TypeId} (h : HR w w1 ((D, u64s L, t) :: rs)) (hne : ∀ r ∈ rs, r.1 ≠ D) (hD : w.heap.size ≤ D) (o Z : Nat) {z : Int} (hz : z = (Z : Int)) : HR w (w1.setCell ⟨D, o, none⟩ (.int .u64 z)) ((D, u64s (L.set o Z), t) :: rs) := by
  have h2 := h.put hne hD o (.int .u64 z)
  have e : (u64s L).setIfInBounds o (.int .u64 z) = u64s (L.set o Z) := by
    unfold u64s
    rw [List.setIfInBounds_toArray, List.map_set, hz]
  rw [← e]
  exact h2
theorem mul_pos {x y : Int} {X Y : Nat} (hx : ((X : Nat) : Int) = x) (hy : ((Y : Nat) : Int) = y) : x * y = ((X * Y : Nat) : Int) := by rw [← hx, ← hy, Int.natCast_mul]

set_option maxRecDepth 8000 in
set_option maxHeartbeats 16000000 in
theorem qTimes (a r : List Nat) (ha : Obol.LB 268435456 a) (hr : Obol.LB 67108863 r) (w : World) :
    Calls Tryd.prog 106 #[.agg (u64s a), .agg (u64s r)] w fun e w' => e = .returned (.agg (u64s (Obol.timesL a r))) ∧ Below w.heap.size w w' := by
  have HA := Lib.hid ha
  have HC := Lib.hid hr
  have hna : (u64s a).size = 5 := by rw [u64s_n, ha.len]
  have hnr : (u64s r).size = 5 := by rw [u64s_n, hr.len]
  clear ha hr
  go_enter Tryd.func106, Tryd.ntmps106
  go_upto_region 2 with fail
  have H0 := Lib.hid (((((HR.refl w).new (u64s a) 127).new (u64s r) 127).new (u64s [0, 0, 0, 0, 0]) 127).new (u64s [0, 0, 0, 0, 0]) 127)
  simp only [World.size_alloc] at H0
  change Code.wp _ _ _ _ ((((w.alloc (.cells (u64s a) 127)).alloc (.cells (u64s r) 127)).alloc (.cells (u64s [0, 0, 0, 0, 0]) 127)).alloc (.cells (u64s [0, 0, 0, 0, 0]) 127))
  generalize (((w.alloc (.cells (u64s a) 127)).alloc (.cells (u64s r) 127)).alloc (.cells (u64s [0, 0, 0, 0, 0]) 127)).alloc (.cells (u64s [0, 0, 0, 0, 0]) 127) = w1 at H0 ⊢
  obtain ⟨b5, h5⟩ : ∃ x, w.heap.size + 1 + 1 + 1 = x := ⟨_, rfl⟩
  rw [h5] at H0 ⊢
  obtain ⟨b4, h4⟩ : ∃ x, w.heap.size + 1 + 1 = x := ⟨_, rfl⟩
  rw [h4] at H0 ⊢
  obtain ⟨b3, h3⟩ : ∃ x, w.heap.size + 1 = x := ⟨_, rfl⟩
  rw [h3] at H0 ⊢
  obtain ⟨b2, h2⟩ : ∃ x, w.heap.size = x := ⟨_, rfl⟩
  have ho : Hid (w.heap.size ≤ b3 ∧ b3 < b4 ∧ b4 < b5) := Lib.hid (by omega)
  replace h3 := Lib.hid h3
  replace h4 := Lib.hid h4
  replace h5 := Lib.hid h5
  have R2 := Lib.hid (H0.out.row (b := w.heap.size) (cs := u64s a) (t := 127) (by simp))
  have H1 := Lib.hid (HR.sub (qs := [(b5, u64s (Obol.mall a r 0), 127), (b4, u64s [0, 0, 0, 0, 0], 127), (b3, u64s r, 127)]) H0.out (by simp [Obol.mall]))
  rw [h2] at R2 ⊢
  replace h2 := Lib.hid h2
  clear H0
  go_wp2_with (refine wpList_load_mid rfl _ _ rfl b2 0 rfl (u64s a).toList _ R2.out.range und5 rfl (by rw [siz5]; simp [hna]) ?_)
  rw [Array.toArray_toList]
  clear R2
  go_loopw [13] (fun q1 wr => ∃ i : Nat, q1 = .int .i64 (i : Int) ∧ i ≤ 5 ∧ Hid (HR w wr [(b5, u64s (Obol.mall a r i), 127), (b4, u64s [0, 0, 0, 0, 0], 127), (b3, u64s r, 127)])) (fun q1 _ => (5 - intOf q1).toNat)
  case atStart => exact ⟨0, rfl, by omega, H1⟩
  case round =>
    clear H1
    rename World => wr
    obtain ⟨I, rfl, hI, H⟩ := hrel
    obtain ⟨i, hi⟩ : ∃ i : Int, (I : Int) = i := ⟨_, rfl⟩
    rw [hi]
    have i0 : 0 ≤ i := by omega
    by_cases hI5 : I < 5
    · have i1 : i < 5 := by omega
      have hiI : Hid (i.toNat = I) := Lib.hid (by omega)
      have hix := fun W => index_agg5 (P := Tryd.prog) 127 22 5 a HA.out.len und5 undU infoU i0 (by omega) W
      obtain ⟨x, ex⟩ : ∃ x : Int, ((a.getD i.toNat 0 : Nat) : Int) = x := ⟨_, rfl⟩
      rw [ex] at hix
      have hxl := HA.out.le i.toNat
      have x0 : 0 ≤ x := by omega
      have x1 : x ≤ 268435456 := by omega
      have w5x := u64w (x := 5 * x) (by omega) (by omega)
      replace ex := Lib.hid ex
      clear hxl
      generalize hD : Obol.mall a r I = D at H
      have HD := Lib.hid (hD ▸ Obol.mall_b HA.out HC.out I)
      replace hD := Lib.hid hD
      have RR := Lib.hid (H.out.row (b := b3) (cs := u64s r) (t := 127) (by simp))
      have H1 : Hid (HR w wr [(b5, u64s (Obol.mrow a r D I 0), 127), (b4, u64s [0, 0, 0, 0, 0], 127), (b3, u64s r, 127)]) := H
      clear H
      go_wp2_with (refine wpList_load_mid rfl _ _ rfl b3 0 rfl (u64s r).toList _ RR.out.range und5 rfl (by rw [siz5]; simp [hnr]) ?_)
      rw [Array.toArray_toList]
      clear RR
      go_loopw [18] (fun q1 wr => ∃ k : Nat, q1 = .int .i64 (k : Int) ∧ k ≤ 5 ∧ Hid (HR w wr [(b5, u64s (Obol.mrow a r D I k), 127), (b4, u64s [0, 0, 0, 0, 0], 127), (b3, u64s r, 127)])) (fun q1 _ => (5 - intOf q1).toNat)
      case atStart => exact ⟨0, rfl, by omega, H1⟩
      case round =>
        clear H1
        rename World => wr
        obtain ⟨K, rfl, hK, H⟩ := hrel
        obtain ⟨k, hk⟩ : ∃ k : Int, (K : Int) = k := ⟨_, rfl⟩
        rw [hk]
        have k0 : 0 ≤ k := by omega
        by_cases hK5 : K < 5
        · have k1 : k < 5 := by omega
          have hkK : Hid (k.toNat = K) := Lib.hid (by omega)
          have hiy := fun W => index_agg5 (P := Tryd.prog) 127 22 5 r HC.out.len und5 undU infoU k0 (by omega) W
          obtain ⟨y, ey⟩ : ∃ y : Int, ((r.getD k.toNat 0 : Nat) : Int) = y := ⟨_, rfl⟩
          rw [ey] at hiy
          have wik := wrap_small (x := i + k) (by omega) (by omega)
          have hml := Obol.mul_le (HA.out.le i.toNat) (HC.out.le k.toNat)
          have hm := mul_pos ex.out ey
          obtain ⟨p, hp⟩ : ∃ p : Int, ((a.getD i.toNat 0 * r.getD k.toNat 0 : Nat) : Int) = p := ⟨_, rfl⟩
          rw [hp] at hm
          have p0 : 0 ≤ p := by omega
          have p1 : p ≤ 18014398241046528 := by omega
          have hm5 : 5 * x * y = 5 * p := by rw [Int.mul_assoc, hm]
          have wp := u64w (x := p) (by omega) (by omega)
          have wp5 := u64w (x := 5 * p) (by omega) (by omega)
          have hB := Obol.mrow_b HA.out HC.out HD.out I K
          have hlen := hB.len
          replace ey := Lib.hid ey
          replace hp := Lib.hid hp
          clear hml
          by_cases hlo : I + K < 5
          · have ik5 : i + k < 5 := by omega
            have ik0 : 0 ≤ i + k := by omega
            have hIK : Hid ((i + k).toNat = I + K) := Lib.hid (by omega)
            obtain ⟨v, ev⟩ : ∃ v : Int, (((Obol.mrow a r D I K).getD (i + k).toNat 0 : Nat) : Int) = v := ⟨_, rfl⟩
            have hv := hB.le (i + k).toNat
            have v0 : 0 ≤ v := by omega
            have v1 : v ≤ 4503599627370496000 := by omega
            have wv := u64w (x := v + p) (by omega) (by omega)
            have c := H.out.cell (b := b5) (cs := u64s (Obol.mrow a r D I K)) (t := 127) (by simp) (i + k).toNat (v := .int .u64 v) ((u64s_get _ (by rw [hlen]; omega)).trans (by rw [ev]))
            have f := H.out.free (b := b5) (cs := u64s (Obol.mrow a r D I K)) (t := 127) (by simp) (i + k).toNat
            have HN := HR.setU H.out (by simp; have := ho.out; omega) (by have := ho.out; omega) (i + k).toNat ((Obol.mrow a r D I K).getD (i + k).toNat 0 + a.getD i.toNat 0 * r.getD k.toNat 0) (z := v + p) (by rw [← ev, ← hp.out, Int.natCast_add])
            rw [hIK.out, hiI.out, hkK.out, ← Obol.mstep_lo hlo] at HN
            replace HN := Lib.hid HN
            clear ev hv hB hlen
            go_wp2_with fail
            go_roundw
            case rel => exact ⟨K + 1, by simp; omega, by omega, by rw [hIK.out]; exact HN⟩
            case measure => simp [intOf]; omega
          · have ik5 : ¬ i + k < 5 := by omega
            have ik0 : 0 ≤ i + k - 5 := by omega
            have ik9 : i + k - 5 < 5 := by omega
            have wik5 := wrap_small (x := i + k - 5) (by omega) (by omega)
            have hIK : Hid ((i + k - 5).toNat = I + K - 5) := Lib.hid (by omega)
            obtain ⟨v, ev⟩ : ∃ v : Int, (((Obol.mrow a r D I K).getD (i + k - 5).toNat 0 : Nat) : Int) = v := ⟨_, rfl⟩
            have hv := hB.le (i + k - 5).toNat
            have v0 : 0 ≤ v := by omega
            have v1 : v ≤ 4503599627370496000 := by omega
            have wv := u64w (x := v + 5 * p) (by omega) (by omega)
            have c := H.out.cell (b := b5) (cs := u64s (Obol.mrow a r D I K)) (t := 127) (by simp) (i + k - 5).toNat (v := .int .u64 v) ((u64s_get _ (by rw [hlen]; omega)).trans (by rw [ev]))
            have f := H.out.free (b := b5) (cs := u64s (Obol.mrow a r D I K)) (t := 127) (by simp) (i + k - 5).toNat
            have HN := HR.setU H.out (by simp; have := ho.out; omega) (by have := ho.out; omega) (i + k - 5).toNat ((Obol.mrow a r D I K).getD (i + k - 5).toNat 0 + 5 * (a.getD i.toNat 0 * r.getD k.toNat 0)) (z := v + 5 * p) (by rw [← ev, ← hp.out]; omega)
            rw [hIK.out, hiI.out, hkK.out, ← Obol.mstep_hi hlo] at HN
            replace HN := Lib.hid HN
            clear ev hv hB hlen
            go_wp2_with fail
            go_roundw
            case rel => exact ⟨K + 1, by simp; omega, by omega, by rw [hIK.out]; exact HN⟩
            case measure => simp [intOf]; omega
        · obtain rfl : K = 5 := by omega
          have k1 : ¬ k < 5 := by omega
          have HN : Hid (HR w wr [(b5, u64s (Obol.mall a r (I + 1)), 127), (b4, u64s [0, 0, 0, 0, 0], 127), (b3, u64s r, 127)]) := Lib.hid (by show HR w wr [(b5, u64s (Obol.mrow a r (Obol.mall a r I) I 5), 127), (b4, u64s [0, 0, 0, 0, 0], 127), (b3, u64s r, 127)]; rw [hD.out]; exact H.out)
          go_wp2_with fail
          go_roundw
          case rel => exact ⟨I + 1, by simp; omega, by omega, HN⟩
          case measure => simp [intOf]; omega
    · obtain rfl : I = 5 := by omega
      have i1 : ¬ i < 5 := by omega
      have HM := Lib.hid (Obol.mall_b HA.out HC.out 5)
      generalize hM : Obol.mall a r 5 = M at H HM
      replace hM := Lib.hid hM
      have H1 : Hid (HR w wr [(b5, u64s (Obol.foldN M 0), 127), (b4, u64s [0, 0, 0, 0, 0], 127), (b3, u64s r, 127)]) := H
      clear H i0 hi hna hnr
      go_wp2_with fail
      go_loopw [50] (fun q1 wr => ∃ n : Nat, q1 = .int .i64 (n : Int) ∧ n ≤ 2 ∧ Hid (HR w wr [(b5, u64s (Obol.foldN M n), 127), (b4, u64s [0, 0, 0, 0, 0], 127), (b3, u64s r, 127)])) (fun q1 _ => (2 - intOf q1).toNat)
      case atStart => exact ⟨0, rfl, by omega, H1⟩
      case round =>
        clear H1
        rename World => wr
        obtain ⟨N, rfl, hN, H⟩ := hrel
        obtain ⟨n, hn⟩ : ∃ n : Int, (N : Int) = n := ⟨_, rfl⟩
        rw [hn]
        have n0 : 0 ≤ n := by omega
        have HD := Lib.hid (Obol.foldN_b HM.out N hN)
        by_cases hN2 : N < 2
        · have n1 : n < 2 := by omega
          generalize hD : Obol.foldN M N = D at H HD
          replace hD := Lib.hid hD
          have HPB := Lib.hid (fun j => Obol.cpass_b HD.out (by omega) (by omega) j)
          have H1 : Hid (HR w wr [(b5, u64s ((Obol.cpass D 0).1), 127), (b4, u64s [0, 0, 0, 0, 0], 127), (b3, u64s r, 127)]) := H
          clear H
          go_wp2_with fail
          go_loopw [10, 52] (fun q1 q2 wr => ∃ j : Nat, q1 = .int .u64 (((Obol.cpass D j).2 : Nat) : Int) ∧ q2 = .int .i64 (j : Int) ∧ j ≤ 5 ∧ Hid (HR w wr [(b5, u64s ((Obol.cpass D j).1), 127), (b4, u64s [0, 0, 0, 0, 0], 127), (b3, u64s r, 127)])) (fun _ q2 _ => (5 - intOf q2).toNat)
          case atStart => exact ⟨0, rfl, rfl, by omega, H1⟩
          case round =>
            clear H1
            rename World => wr
            obtain ⟨J, rfl, rfl, hJ, H⟩ := hrel
            obtain ⟨j, hj⟩ : ∃ j : Int, (J : Int) = j := ⟨_, rfl⟩
            obtain ⟨s, hs⟩ : ∃ s : Int, (((Obol.cpass D J).2 : Nat) : Int) = s := ⟨_, rfl⟩
            rw [hj, hs]
            have j0 : 0 ≤ j := by omega
            have hPJ := HPB.out J
            have s0 : 0 ≤ s := by omega
            have s1 : s ≤ 50000000000 := by omega
            by_cases hJ5 : J < 5
            · have j1 : j < 5 := by omega
              have hjJ : Hid (j.toNat = J) := Lib.hid (by omega)
              obtain ⟨v, hv⟩ : ∃ v : Int, (((Obol.cpass D J).1.getD j.toNat 0 : Nat) : Int) = v := ⟨_, rfl⟩
              have hvl := hPJ.1.le j.toNat
              have hnn : N * 250000000000 ≤ 500000000000 := by omega
              have v0 : 0 ≤ v := by omega
              have v1 : v ≤ 3000000000000000000 := by omega
              have wv := u64w (x := v + s) (by omega) (by omega)
              have c := H.out.cell (b := b5) (cs := u64s ((Obol.cpass D J).1)) (t := 127) (by simp) j.toNat (v := .int .u64 v) ((u64s_get _ (by rw [hPJ.1.len]; omega)).trans (by rw [hv]))
              have f := H.out.free (b := b5) (cs := u64s ((Obol.cpass D J).1)) (t := 127) (by simp) j.toNat
              obtain ⟨u, hu⟩ : ∃ u : Int, v + s = u := ⟨_, rfl⟩
              have hU : u = (((Obol.cpass D J).1.getD j.toNat 0 + (Obol.cpass D J).2 : Nat) : Int) := by omega
              have u0 : 0 ≤ u := by omega
              have u1 : u ≤ 3000000050000000000 := by omega
              have H2 := Lib.hid (HR.setU H.out (by simp; have := ho.out; omega) (by have := ho.out; omega) j.toNat ((Obol.cpass D J).1.getD j.toNat 0 + (Obol.cpass D J).2) hU)
              replace hv := Lib.hid hv
              replace hs := Lib.hid hs
              replace hU := Lib.hid hU
              rw [hu] at wv
              go_wp2_with fail
              clear c f wv hu
              generalize wr.setCell ⟨b5, j.toNat, none⟩ (.int .u64 u) = w2 at H2 ⊢
              have c := H2.out.cell (b := b5) (cs := u64s ((Obol.cpass D J).1.set j.toNat ((Obol.cpass D J).1.getD j.toNat 0 + (Obol.cpass D J).2))) (t := 127) (by simp) j.toNat (v := .int .u64 u) ((u64s_get _ (by rw [List.length_set, hPJ.1.len]; omega)).trans (by rw [List.getD_eq_getElem?_getD, List.getElem?_set, if_pos rfl, if_pos (by rw [hPJ.1.len]; omega), hU.out]; rfl))
              have f := H2.out.free (b := b5) (cs := u64s ((Obol.cpass D J).1.set j.toNat ((Obol.cpass D J).1.getD j.toNat 0 + (Obol.cpass D J).2))) (t := 127) (by simp) j.toNat
              have hand := and_26 (n := u) u0 (by omega)
              have HN := (HR.setU H2.out (by simp; have := ho.out; omega) (by have := ho.out; omega) j.toNat (((Obol.cpass D J).1.getD j.toNat 0 + (Obol.cpass D J).2) % 67108864) (z := u % 67108864) (by rw [hU.out]; rfl)).drew
              rw [List.set_set] at HN
              have hR : Hid (u / 67108864 = (((Obol.cpass D (J + 1)).2 : Nat) : Int)) := Lib.hid (by
                show u / 67108864 = ((((Obol.cpass D J).1.getD J 0 + (Obol.cpass D J).2) / 67108864 : Nat) : Int)
                rw [hU.out, hjJ.out]; rfl)
              have HN2 := Lib.hid HN
              clear hU hvl HN
              go_region
              go_wp2_with fail
              go_roundw
              case rel => exact ⟨J + 1, by rw [← hR.out], by simp; omega, by omega, by show Hid (HR w _ [(b5, u64s ((Obol.cpass D J).1.set J (((Obol.cpass D J).1.getD J 0 + (Obol.cpass D J).2) % 67108864)), 127), (b4, u64s [0, 0, 0, 0, 0], 127), (b3, u64s r, 127)]); rw [hjJ.out] at HN2 ⊢; exact HN2⟩
              case measure => simp [intOf]; omega
            · obtain rfl : J = 5 := by omega
              have j1 : ¬ j < 5 := by omega
              obtain ⟨v, hv⟩ : ∃ v : Int, (((Obol.cpass D 5).1.getD 0 0 : Nat) : Int) = v := ⟨_, rfl⟩
              have hvl := hPJ.1.le 0
              have hnn : N * 250000000000 ≤ 500000000000 := by omega
              have v0 : 0 ≤ v := by omega
              have v1 : v ≤ 3000000000000000000 := by omega
              have w5 := u64w (x := 5 * s) (by omega) (by omega)
              have wv := u64w (x := v + 5 * s) (by omega) (by omega)
              have c := H.out.cell (b := b5) (cs := u64s ((Obol.cpass D 5).1)) (t := 127) (by simp) 0 (v := .int .u64 v) ((u64s_get _ (by rw [hPJ.1.len]; omega)).trans (by rw [hv]))
              have f := H.out.free (b := b5) (cs := u64s ((Obol.cpass D 5).1)) (t := 127) (by simp) 0
              have HN : Hid (HR w (wr.setCell ⟨b5, 0, none⟩ (.int .u64 (v + 5 * s))) [(b5, u64s (Obol.foldN M (N + 1)), 127), (b4, u64s [0, 0, 0, 0, 0], 127), (b3, u64s r, 127)]) := Lib.hid (by
                show HR w _ [(b5, u64s (Obol.fold1 (Obol.foldN M N)), 127), (b4, u64s [0, 0, 0, 0, 0], 127), (b3, u64s r, 127)]
                rw [hD.out]
                exact HR.setU H.out (by simp; have := ho.out; omega) (by have := ho.out; omega) 0 ((Obol.cpass D 5).1.getD 0 0 + 5 * (Obol.cpass D 5).2) (z := v + 5 * s) (by omega))
              replace hv := Lib.hid hv
              replace hs := Lib.hid hs
              go_wp2_with fail
              go_roundw
              case rel => exact ⟨N + 1, by simp; omega, by omega, HN⟩
              case measure => simp [intOf]; omega
        · obtain rfl : N = 2 := by omega
          have n1 : ¬ n < 2 := by omega
          have hlen := HD.out.len
          have hV : Hid (Obol.foldN M 2 = Obol.timesL a r) := Lib.hid (by show Obol.fold1 (Obol.fold1 M) = _; rw [← hM.out]; rfl)
          generalize Obol.foldN M 2 = V at H hlen hV
          have R0 := Lib.hid (H.out.row (b := b4) (cs := u64s [0, 0, 0, 0, 0]) (t := 127) (by simp))
          have R1 := Lib.hid (H.out.row (b := b5) (cs := u64s V) (t := 127) (by simp))
          have hn5 : (u64s V).size = 5 := by rw [u64s_n, hlen]
          have h1 : (u64s V).toList.toArray.all (·.oneCell') = true := by rw [Array.toArray_toList]; exact u64s_one V
          have hth : wr.there b4 0 (u64s V).toList.toArray.size := by rw [Array.toArray_toList, hn5, ← (show (u64s [0, 0, 0, 0, 0]).size = 5 from rfl)]; exact R0.out.there
          clear HD
          go_wp2_with (first | (refine wpList_load_mid rfl _ _ rfl b5 0 rfl (u64s V).toList _ R1.out.range und5 rfl (by rw [siz5]; simp [hn5]) ?_) | (refine wpList_store_mid rfl _ _ _ rfl b4 0 (u64s V).toList.toArray rfl rfl hth (by rw [siz5]; simp [hn5]) h1 ?_))
          have RZ : Row (wr.setCells b4 0 (u64s V).toList.toArray.toList) b4 (u64s V) 127 := by rw [Array.toArray_toList]; exact R0.out.store (u64s V) (by rw [hn5]; rfl)
          refine bodyPost_ret (v := .agg (u64s V)) (results_row rfl _ rfl RZ und5 rfl (by rw [siz5, hn5])) rfl ⟨by rw [hV.out], ?_⟩
          exact bSetMany (by have := ho.out; omega) _ _ _ H.out.2

end Go.Proofs.YtallfmiikjmgaaaDoor
/- Walks: package cipher: the carries of a number in limbs (a closure of whole). -/
namespace Go.Proofs.YtallfmiikjmgaaaDoor
open Go.RowKit

set_option maxRecDepth 8000 in
set_option maxHeartbeats 8000000 in
theorem qCarry (k : Nat) (d : List Nat) (M : Nat) (HD0 : Obol.LB M d) (hM : 67108864 ≤ M) (hM2 : M ≤ 3000000000000000000) (w : World) (R0 : Row w k (u64s d) 127) :
    Calls Tryd.prog 114 #[.pointer (some ⟨k, 0, none⟩)] w fun e w' => e = .returned (.int .u64 (((Obol.cpass d 5).2 : Nat) : Int)) ∧ Row w' k (u64s (Obol.cpass d 5).1) 127 ∧ Below k w w' ∧ ∀ c cs t, c ≠ k → Row w c cs t → Row w' c cs t := by
  have HPB := Lib.hid (fun j => Obol.cpass_b HD0 hM hM2 j)
  have R1 : Hid (Row w k (u64s (Obol.cpass d 0).1) 127) := Lib.hid R0
  have hM3 := Lib.hid hM2
  clear HD0 hM hM2 R0
  go_enter Tryd.func114, Tryd.ntmps114
  go_wp2_with fail
  go_loopw [3, 5] (fun q1 q2 wr => ∃ j : Nat, q1 = .int .u64 (((Obol.cpass d j).2 : Nat) : Int) ∧ q2 = .int .i64 (j : Int) ∧ j ≤ 5 ∧ Hid (Row wr k (u64s (Obol.cpass d j).1) 127) ∧ Hid (Below k w wr) ∧ Hid (∀ c cs t, c ≠ k → Row w c cs t → Row wr c cs t)) (fun _ q2 _ => (5 - intOf q2).toNat)
  case atStart => exact ⟨0, rfl, rfl, by omega, R1, Lib.hid (Below.refl _ _), Lib.hid (fun _ _ _ _ h => h)⟩
  case round =>
    clear R1
    rename World => wr
    obtain ⟨J, rfl, rfl, hJ, R, B, O⟩ := hrel
    obtain ⟨j, hj⟩ : ∃ j : Int, (J : Int) = j := ⟨_, rfl⟩
    obtain ⟨s, hs⟩ : ∃ s : Int, (((Obol.cpass d J).2 : Nat) : Int) = s := ⟨_, rfl⟩
    rw [hj, hs]
    have j0 : 0 ≤ j := by omega
    have hPJ := HPB.out J
    have s0 : 0 ≤ s := by omega
    have s1 : s ≤ 50000000000 := by omega
    by_cases hJ5 : J < 5
    · have j1 : j < 5 := by omega
      have hjJ : Hid (j.toNat = J) := Lib.hid (by omega)
      obtain ⟨v, hv⟩ : ∃ v : Int, (((Obol.cpass d J).1.getD j.toNat 0 : Nat) : Int) = v := ⟨_, rfl⟩
      have hvl := hPJ.1.le j.toNat
      have hm := hM3.out
      have v0 : 0 ≤ v := by omega
      have v1 : v ≤ 3000000000000000000 := by omega
      have wv := u64w (x := v + s) (by omega) (by omega)
      have c := R.out.cell j.toNat (v := .int .u64 v) ((u64s_get _ (by rw [hPJ.1.len]; omega)).trans (by rw [hv]))
      have f := R.out.free j.toNat
      obtain ⟨u, hu⟩ : ∃ u : Int, v + s = u := ⟨_, rfl⟩
      have hU : u = (((Obol.cpass d J).1.getD j.toNat 0 + (Obol.cpass d J).2 : Nat) : Int) := by omega
      have u0 : 0 ≤ u := by omega
      have u1 : u ≤ 3000000050000000000 := by omega
      have R2 := Lib.hid ((rowSetU R.out j.toNat _ hU).drew)
      have O2 : Hid (∀ c cs t, c ≠ k → Row w c cs t → Row (wr.setCell ⟨k, j.toNat, none⟩ (.int .u64 u)).drew c cs t) := Lib.hid (fun c cs t hc h => ((O.out c cs t hc h).other hc).drew)
      have B2 := Lib.hid (bDrew (bSet (u := .int .u64 u) (o := j.toNat) B.out (Nat.le_refl k)))
      replace hv := Lib.hid hv
      replace hs := Lib.hid hs
      replace hU := Lib.hid hU
      rw [hu] at wv
      clear hm hvl
      go_wp2_with fail
      go_region
      go_upto_region 6 with fail
      clear c f wv hu R B O
      generalize (wr.setCell ⟨k, j.toNat, none⟩ (.int .u64 u)).drew = w2 at R2 B2 O2 ⊢
      have c := R2.out.cell j.toNat (v := .int .u64 u) ((u64s_get _ (by rw [List.length_set, hPJ.1.len]; omega)).trans (by rw [List.getD_eq_getElem?_getD, List.getElem?_set, if_pos rfl, if_pos (by rw [hPJ.1.len]; omega), hU.out]; rfl))
      have f := R2.out.free j.toNat
      have hand := and_26 (n := u) u0 (by omega)
      have RN := (rowSetU R2.out j.toNat (((Obol.cpass d J).1.getD j.toNat 0 + (Obol.cpass d J).2) % 67108864) (z := u % 67108864) (by rw [hU.out]; rfl)).drew
      rw [List.set_set] at RN
      have RN2 := Lib.hid RN
      have BN := Lib.hid (bDrew (bSet (u := .int .u64 (u % 67108864)) (o := j.toNat) B2.out (Nat.le_refl k)))
      have hR : Hid (u / 67108864 = (((Obol.cpass d (J + 1)).2 : Nat) : Int)) := Lib.hid (by
        show u / 67108864 = ((((Obol.cpass d J).1.getD J 0 + (Obol.cpass d J).2) / 67108864 : Nat) : Int)
        rw [hU.out, hjJ.out]; rfl)
      have ON : Hid (∀ c cs t, c ≠ k → Row w c cs t → Row (w2.setCell ⟨k, j.toNat, none⟩ (.int .u64 (u % 67108864))).drew c cs t) := Lib.hid (fun c cs t hc h => ((O2.out c cs t hc h).other hc).drew)
      clear RN R2 B2 O2
      go_region
      go_wp2_with fail
      go_roundw
      case rel => exact ⟨J + 1, by rw [← hR.out], by simp; omega, by omega, by show Hid (Row _ k (u64s ((Obol.cpass d J).1.set J (((Obol.cpass d J).1.getD J 0 + (Obol.cpass d J).2) % 67108864))) _); rw [hjJ.out] at RN2 ⊢; exact RN2, BN, ON⟩
      case measure => simp [intOf]; omega
    · obtain rfl : J = 5 := by omega
      have j1 : ¬ j < 5 := by omega
      have hs2 := Lib.hid hs
      clear hs
      go_wp2_with fail
      go_ret
      exact ⟨by rw [hs2.out]; rfl, R.out, B.out, O.out⟩

end Go.Proofs.YtallfmiikjmgaaaDoor
/- Plain: what digits of any radix say; digits of 8 bits. -/
namespace Obol
/-- A value that nothing can look into. -/
noncomputable def shutN {α : Type} (x : α) : { y : α // y = x } := Classical.choice ⟨⟨x, rfl⟩⟩
theorem ext_getD {L M : List Nat} (hl : L.length = M.length) (h : ∀ i, i < L.length → L.getD i 0 = M.getD i 0) : L = M := by
  refine List.ext_getElem hl fun i h1 h2 => ?_
  have := h i h1
  rwa [List.getD_eq_getElem?_getD, List.getD_eq_getElem?_getD, List.getElem?_eq_getElem h1, List.getElem?_eq_getElem h2] at this
theorem getD_out {L : List Nat} {i : Nat} (h : L.length ≤ i) : L.getD i 0 = 0 := by
  rw [List.getD_eq_getElem?_getD, List.getElem?_eq_none h]; rfl
/-- What the first digits say. -/
def vR (R : Nat) (L : List Nat) : Nat → Nat
  | 0 => 0
  | i + 1 => vR R L i + L.getD i 0 * R ^ i
theorem vR_succ (R : Nat) (L : List Nat) (i : Nat) : vR R L (i + 1) = vR R L i + L.getD i 0 * R ^ i := rfl
theorem vR_congr (R : Nat) {L M : List Nat} : ∀ n, (∀ i, i < n → L.getD i 0 = M.getD i 0) → vR R L n = vR R M n
  | 0, _ => rfl
  | n + 1, h => by
    show vR R L n + _ = vR R M n + _
    rw [vR_congr R n (fun i hi => h i (by omega)), h n (by omega)]
theorem vR_more (R : Nat) (L : List Nat) (n : Nat) (hn : L.length ≤ n) : ∀ k, vR R L (n + k) = vR R L n
  | 0 => rfl
  | k + 1 => by
    show vR R L (n + k) + L.getD (n + k) 0 * R ^ (n + k) = _
    rw [getD_out (by omega), Nat.zero_mul, Nat.add_zero, vR_more R L n hn k]
theorem vR_ge (R : Nat) (L : List Nat) (n : Nat) : ∀ k, ∃ t, vR R L (n + k) = vR R L n + R ^ n * t
  | 0 => ⟨0, rfl⟩
  | k + 1 => by
    obtain ⟨t, ht⟩ := vR_ge R L n k
    refine ⟨t + L.getD (n + k) 0 * R ^ k, ?_⟩
    show vR R L (n + k) + L.getD (n + k) 0 * R ^ (n + k) = _
    rw [ht, Nat.pow_add, Nat.mul_add, Nat.add_assoc]
    congr 2
    rw [Nat.mul_left_comm]
theorem vR_div (R : Nat) (hR : 0 < R) (L : List Nat) (i : Nat) : vR R L (i + 1) / R ^ i = vR R L i / R ^ i + L.getD i 0 := by
  show (vR R L i + L.getD i 0 * R ^ i) / R ^ i = _
  rw [Nat.add_mul_div_right _ _ (Nat.pow_pos hR)]
theorem vR_step (R : Nat) (hR : 0 < R) (L : List Nat) (i : Nat) : (vR R L i / R ^ i + L.getD i 0) / R = vR R L (i + 1) / R ^ (i + 1) := by
  rw [← vR_div R hR, Nat.div_div_eq_div_mul, Nat.pow_succ]
/-- The digit of what all say. -/
theorem vR_dig (R : Nat) (hR : 0 < R) (L : List Nat) (i m : Nat) (h : i < m) : (vR R L i / R ^ i + L.getD i 0) % R = vR R L m / R ^ i % R := by
  obtain ⟨k, rfl⟩ : ∃ k, m = i + 1 + k := ⟨m - (i + 1), by omega⟩
  obtain ⟨t, ht⟩ := vR_ge R L (i + 1) k
  rw [← vR_div R hR, ht, Nat.pow_succ, Nat.mul_assoc, Nat.add_mul_div_left _ _ (Nat.pow_pos hR), Nat.add_mul_mod_self_left]
theorem vR_lt (R : Nat) {L : List Nat} (h : ∀ i, L.getD i 0 < R) : ∀ n, vR R L n < R ^ n
  | 0 => Nat.one_pos
  | n + 1 => by
    have h1 := vR_lt R h n
    have h2 : (L.getD n 0 + 1) * R ^ n ≤ R * R ^ n := Nat.mul_le_mul_right _ (h n)
    show vR R L n + L.getD n 0 * R ^ n < _
    rw [Nat.pow_succ, Nat.mul_comm (R ^ n)]
    rw [Nat.add_mul] at h2
    omega
theorem vR_set (R : Nat) (L : List Nat) (j x : Nat) (hj : j < L.length) : ∀ n, j < n → vR R (L.set j (L.getD j 0 + x)) n = vR R L n + x * R ^ j
  | 0, h => by omega
  | n + 1, h => by
    show vR R (L.set j _) n + (L.set j _).getD n 0 * R ^ n = vR R L n + L.getD n 0 * R ^ n + _
    rw [getD_set _ _ _ _ hj]
    by_cases hn : j = n
    · subst hn
      rw [if_pos rfl, vR_congr R (M := L) j (fun i hi => by rw [getD_set _ _ _ _ hj, if_neg (by omega)]), Nat.add_mul, Nat.add_assoc]
    · rw [if_neg hn, vR_set R L j x hj n (by omega)]; omega
/-- Digits of 8 bits. -/
def digs (n V : Nat) : List Nat := (List.range n).map fun i => V / 256 ^ i % 256
theorem digs_len (n V : Nat) : (digs n V).length = n := by simp [digs]
theorem digs_get (n V : Nat) {i : Nat} (h : i < n) : (digs n V).getD i 0 = V / 256 ^ i % 256 := by
  unfold digs
  rw [List.getD_eq_getElem?_getD, List.getElem?_map, List.getElem?_range h]
  rfl
theorem digs_lt (n V i : Nat) : (digs n V).getD i 0 < 256 := by
  by_cases h : i < n
  · rw [digs_get n V h]; exact Nat.mod_lt _ (by decide)
  · rw [getD_out (by rw [digs_len]; omega)]; decide
theorem vR_digs (n V : Nat) : ∀ m, m ≤ n → vR 256 (digs n V) m = V % 256 ^ m
  | 0, _ => by simp [vR, Nat.mod_one]
  | m + 1, h => by
    show vR 256 (digs n V) m + (digs n V).getD m 0 * 256 ^ m = _
    rw [vR_digs n V m (by omega), digs_get n V (by omega), Nat.mod_pow_succ, Nat.mul_comm (256 ^ m)]
theorem digs_vR {L : List Nat} {n : Nat} (hl : L.length = n) (h : ∀ i, L.getD i 0 < 256) : digs n (vR 256 L n) = L := by
  refine ext_getD (by rw [digs_len, hl]) fun i hi => ?_
  rw [digs_len] at hi
  rw [digs_get _ _ hi, ← vR_dig 256 (by decide) L i n hi]
  have h1 := vR_lt 256 h i
  rw [Nat.div_eq_of_lt h1, Nat.zero_add, Nat.mod_eq_of_lt (h i)]
/-- The next bit of a number, in its digits. -/
theorem digs_bit (n V i : Nat) (hi : i / 8 < n) (b : Nat) (hb : b = V / 2 ^ i % 2) :
    (digs n (V % 2 ^ i)).getD (i / 8) 0 < 2 ^ (i % 8) ∧ (digs n (V % 2 ^ i)).set (i / 8) ((digs n (V % 2 ^ i)).getD (i / 8) 0 + b * 2 ^ (i % 8)) = digs n (V % 2 ^ (i + 1)) := by
  subst hb
  have e8 : 2 ^ i = 256 ^ (i / 8) * 2 ^ (i % 8) := by
    rw [show (256 : Nat) = 2 ^ 8 from rfl, ← Nat.pow_mul, ← Nat.pow_add, Nat.div_add_mod]
  have hA : V % 2 ^ i < 2 ^ i := Nat.mod_lt _ (Nat.two_pow_pos i)
  have hB : V % 2 ^ (i + 1) = V % 2 ^ i + 2 ^ i * (V / 2 ^ i % 2) := Nat.mod_pow_succ
  have hm : i % 8 < 8 := Nat.mod_lt _ (by decide)
  have h8 : 2 ^ (i % 8) ≤ 128 := Nat.pow_le_pow_right (by decide) (show i % 8 ≤ 7 by omega)
  generalize V % 2 ^ i = A at hA hB ⊢
  have hb2 : V / 2 ^ i % 2 < 2 := Nat.mod_lt _ (by decide)
  generalize V / 2 ^ i % 2 = b at hB hb2 ⊢
  have hd : A / 256 ^ (i / 8) < 2 ^ (i % 8) := by
    rw [Nat.div_lt_iff_lt_mul (Nat.pow_pos (by decide)), Nat.mul_comm, ← e8]
    exact hA
  have h0 : (digs n A).getD (i / 8) 0 = A / 256 ^ (i / 8) := by rw [digs_get _ _ hi, Nat.mod_eq_of_lt (by omega)]
  refine ⟨by rw [h0]; exact hd, ?_⟩
  refine ext_getD (by rw [List.length_set, digs_len, digs_len]) fun k hk => ?_
  rw [List.length_set, digs_len] at hk
  rw [getD_set _ _ _ _ (by rw [digs_len]; exact hi), hB]
  split
  · rename_i hk2
    have e9 : (A + 2 ^ i * b) / 256 ^ (i / 8) = A / 256 ^ (i / 8) + b * 2 ^ (i % 8) := by
      rw [e8, Nat.mul_assoc, Nat.add_mul_div_left _ _ (Nat.pow_pos (by decide)), Nat.mul_comm (2 ^ (i % 8))]
    have hb3 : b * 2 ^ (i % 8) ≤ 1 * 2 ^ (i % 8) := Nat.mul_le_mul_right _ (by omega)
    have hlt : A / 256 ^ (i / 8) + b * 2 ^ (i % 8) < 256 := by omega
    rw [← hk2, h0, digs_get _ _ hi, e9, Nat.mod_eq_of_lt hlt]
  · rename_i hk2
    rw [digs_get _ _ hk, digs_get _ _ hk]
    by_cases hlt : k < i / 8
    · obtain ⟨t, ht⟩ : ∃ t, 2 ^ i = 256 ^ k * (256 * t) := ⟨256 ^ (i / 8 - k - 1) * 2 ^ (i % 8), by
        rw [e8, show i / 8 = k + (1 + (i / 8 - k - 1)) by omega, Nat.pow_add, Nat.pow_add, show k + (1 + (i / 8 - k - 1)) - k - 1 = i / 8 - k - 1 by omega]
        simp only [Nat.mul_assoc, Nat.pow_one]⟩
      rw [ht, Nat.mul_assoc, Nat.add_mul_div_left _ _ (Nat.pow_pos (by decide)), Nat.mul_assoc, Nat.add_mul_mod_self_left]
    · have hp : 2 ^ (i + 1) ≤ 256 ^ k := by
        rw [show (256 : Nat) = 2 ^ 8 from rfl, ← Nat.pow_mul]
        exact Nat.pow_le_pow_right (by decide) (by omega)
      have hB2 : A + 2 ^ i * b < 2 ^ (i + 1) := by rw [← hB]; exact Nat.mod_lt _ (Nat.two_pow_pos _)
      rw [Nat.div_eq_of_lt (by omega), Nat.div_eq_of_lt (by omega)]
end Obol
