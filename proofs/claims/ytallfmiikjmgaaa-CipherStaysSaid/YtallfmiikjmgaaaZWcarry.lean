import Derived.Test.YtallfmiikjmgaaaZWtimes6
set_option linter.unusedVariables false
set_option linter.unusedSimpArgs false
/- Walks: package cipher: the carries of a number in limbs (a closure of whole). -/
namespace Go.Proofs.Ytallfmiikjmgaaa
open Go.RowKit

set_option maxRecDepth 8000 in
set_option maxHeartbeats 8000000 in
theorem qCarry (k : Nat) (d : List Nat) (M : Nat) (HD0 : Obol.LB M d) (hM : 67108864 ≤ M) (hM2 : M ≤ 3000000000000000000) (w : World) (R0 : Row w k (u64s d) 67) :
    Calls Try.prog 75 #[.pointer (some ⟨k, 0, none⟩)] w fun e w' => e = .returned (.int .u64 (((Obol.cpass d 5).2 : Nat) : Int)) ∧ Row w' k (u64s (Obol.cpass d 5).1) 67 ∧ Below k w w' ∧ ∀ c cs t, c ≠ k → Row w c cs t → Row w' c cs t := by
  have HPB := Lib.hid (fun j => Obol.cpass_b HD0 hM hM2 j)
  have R1 : Hid (Row w k (u64s (Obol.cpass d 0).1) 67) := Lib.hid R0
  have hM3 := Lib.hid hM2
  clear HD0 hM hM2 R0
  go_enter Try.func75, Try.ntmps75
  go_wp2_with fail
  go_loopw [3, 5] (fun q1 q2 wr => ∃ j : Nat, q1 = .int .u64 (((Obol.cpass d j).2 : Nat) : Int) ∧ q2 = .int .i64 (j : Int) ∧ j ≤ 5 ∧ Hid (Row wr k (u64s (Obol.cpass d j).1) 67) ∧ Hid (Below k w wr) ∧ Hid (∀ c cs t, c ≠ k → Row w c cs t → Row wr c cs t)) (fun _ q2 _ => (5 - intOf q2).toNat)
  case atStart => exact ⟨0, rfl, rfl, by omega, R1, Lib.hid (Below.refl _ _), Lib.hid (fun _ _ _ _ h => h)⟩
  case round =>
    clear R1
    rename World => wr
    obtain ⟨J, rfl, rfl, hJ, R, B, O⟩ := hrel
    obtain ⟨j, hj⟩ : ∃ j : Int, (J : Int) = j := ⟨_, rfl⟩
    obtain ⟨s, hs⟩ : ∃ s : Int, (((Obol.cpass d J).2 : Nat) : Int) = s := ⟨_, rfl⟩
    rw [hj, hs]
    have j0 : 0 ≤ j := by omega
    have hPJ := HPB.out J
    have s0 : 0 ≤ s := by omega
    have s1 : s ≤ 50000000000 := by omega
    by_cases hJ5 : J < 5
    · have j1 : j < 5 := by omega
      have hjJ : Hid (j.toNat = J) := Lib.hid (by omega)
      obtain ⟨v, hv⟩ : ∃ v : Int, (((Obol.cpass d J).1.getD j.toNat 0 : Nat) : Int) = v := ⟨_, rfl⟩
      have hvl := hPJ.1.le j.toNat
      have hm := hM3.out
      have v0 : 0 ≤ v := by omega
      have v1 : v ≤ 3000000000000000000 := by omega
      have wv := u64w (x := v + s) (by omega) (by omega)
      have c := R.out.cell j.toNat (v := .int .u64 v) ((u64s_get _ (by rw [hPJ.1.len]; omega)).trans (by rw [hv]))
      have f := R.out.free j.toNat
      obtain ⟨u, hu⟩ : ∃ u : Int, v + s = u := ⟨_, rfl⟩
      have hU : u = (((Obol.cpass d J).1.getD j.toNat 0 + (Obol.cpass d J).2 : Nat) : Int) := by omega
      have u0 : 0 ≤ u := by omega
      have u1 : u ≤ 3000000050000000000 := by omega
      have R2 := Lib.hid ((rowSetU R.out j.toNat _ hU).drew)
      have O2 : Hid (∀ c cs t, c ≠ k → Row w c cs t → Row (wr.setCell ⟨k, j.toNat, none⟩ (.int .u64 u)).drew c cs t) := Lib.hid (fun c cs t hc h => ((O.out c cs t hc h).other hc).drew)
      have B2 := Lib.hid (bDrew (bSet (u := .int .u64 u) (o := j.toNat) B.out (Nat.le_refl k)))
      replace hv := Lib.hid hv
      replace hs := Lib.hid hs
      replace hU := Lib.hid hU
      rw [hu] at wv
      clear hm hvl
      go_wp2_with fail
      go_region
      go_upto_region 6 with fail
      clear c f wv hu R B O
      generalize (wr.setCell ⟨k, j.toNat, none⟩ (.int .u64 u)).drew = w2 at R2 B2 O2 ⊢
      have c := R2.out.cell j.toNat (v := .int .u64 u) ((u64s_get _ (by rw [List.length_set, hPJ.1.len]; omega)).trans (by rw [List.getD_eq_getElem?_getD, List.getElem?_set, if_pos rfl, if_pos (by rw [hPJ.1.len]; omega), hU.out]; rfl))
      have f := R2.out.free j.toNat
      have hand := and_26 (n := u) u0 (by omega)
      have RN := (rowSetU R2.out j.toNat (((Obol.cpass d J).1.getD j.toNat 0 + (Obol.cpass d J).2) % 67108864) (z := u % 67108864) (by rw [hU.out]; rfl)).drew
      rw [List.set_set] at RN
      have RN2 := Lib.hid RN
      have BN := Lib.hid (bDrew (bSet (u := .int .u64 (u % 67108864)) (o := j.toNat) B2.out (Nat.le_refl k)))
      have hR : Hid (u / 67108864 = (((Obol.cpass d (J + 1)).2 : Nat) : Int)) := Lib.hid (by
        show u / 67108864 = ((((Obol.cpass d J).1.getD J 0 + (Obol.cpass d J).2) / 67108864 : Nat) : Int)
        rw [hU.out, hjJ.out]; rfl)
      have ON : Hid (∀ c cs t, c ≠ k → Row w c cs t → Row (w2.setCell ⟨k, j.toNat, none⟩ (.int .u64 (u % 67108864))).drew c cs t) := Lib.hid (fun c cs t hc h => ((O2.out c cs t hc h).other hc).drew)
      clear RN R2 B2 O2
      go_region
      go_wp2_with fail
      go_roundw
      case rel => exact ⟨J + 1, by rw [← hR.out], by simp; omega, by omega, by show Hid (Row _ k (u64s ((Obol.cpass d J).1.set J (((Obol.cpass d J).1.getD J 0 + (Obol.cpass d J).2) % 67108864))) _); rw [hjJ.out] at RN2 ⊢; exact RN2, BN, ON⟩
      case measure => simp [intOf]; omega
    · obtain rfl : J = 5 := by omega
      have j1 : ¬ j < 5 := by omega
      have hs2 := Lib.hid hs
      clear hs
      go_wp2_with fail
      go_ret
      exact ⟨by rw [hs2.out]; rfl, R.out, B.out, O.out⟩

end Go.Proofs.Ytallfmiikjmgaaa
