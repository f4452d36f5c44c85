import Derived.Test.YtcdfpceagobicaaWref1
/- Walks: the reference of layer 7: the field, points, sums, multiples. -/
namespace Go.Proofs.Ytcdfpceagobicaa
open Go.RowKit

theorem addR_less (a b : Nat) : Obol.addR a (288230376287764481 - b % 288230376287764481) = Obol.subR a b := by
  rw [Obol.addR_eq, Obol.subR_eq, Obol.addQ, Obol.subQ, Obol.R_def]
  omega

theorem r7Mul (a b : Int) (ha : 0 ≤ a) (hb : 0 ≤ b) (w : World) :
    Calls Try.prog 22 #[.int .u64 a, .int .u64 b] w fun e w' => e = .returned (.int .u64 ((Obol.mulR a.toNat b.toNat : Nat) : Int)) ∧ ∃ n, w' = w.drewN n := by
  go_enter Try.func22, Try.ntmps22
  go_wp2_with (go_at_call 38; refine (R1Mul _ _ ha hb _).mono ?_; rintro e w' ⟨rfl, rfl⟩)
  go_ret
  exact ⟨rfl, 0, rfl⟩
theorem r7Plus (a b : Int) (ha : 0 ≤ a) (hb : 0 ≤ b) (w : World) :
    Calls Try.prog 25 #[.int .u64 a, .int .u64 b] w fun e w' => e = .returned (.int .u64 ((Obol.addR a.toNat b.toNat : Nat) : Int)) ∧ ∃ n, w' = w.drewN n := by
  go_enter Try.func25, Try.ntmps25
  go_wp2_with (go_at_call 39; refine (R1Add _ _ ha hb _).mono ?_; rintro e w' ⟨rfl, rfl⟩)
  go_ret
  exact ⟨rfl, 0, rfl⟩
theorem r7Less (a b : Int) (ha : 0 ≤ a) (hb : 0 ≤ b) (w : World) :
    Calls Try.prog 24 #[.int .u64 a, .int .u64 b] w fun e w' => e = .returned (.int .u64 ((Obol.subR a.toNat b.toNat : Nat) : Int)) ∧ ∃ n, w' = w.drewN n := by
  have h1 : (288230376287764481 - b % 288230376287764481).toNat = 288230376287764481 - b.toNat % 288230376287764481 := by omega
  have he := addR_less a.toNat b.toNat
  rw [← h1] at he
  obtain ⟨z, hz⟩ : ∃ z : Int, z = b % 288230376287764481 := ⟨_, rfl⟩
  rw [← hz] at he
  have HE := Lib.hid he
  have e1 : b.tmod 288230376287764481 = z := by rw [Int.tmod_eq_emod_of_nonneg hb]; exact hz.symm
  have h2 : 0 ≤ z := by omega
  have h3 : z < 288230376287764481 := by omega
  replace hz := hz.symm
  clear he h1
  go_enter Try.func24, Try.ntmps24
  go_wp2_with (go_at_call 25; refine (r7Plus _ _ ha (by omega) _).mono ?_; rintro e w' ⟨rfl, n, rfl⟩)
  go_ret
  exact ⟨ret_u64 (by rw [HE.out]), _, rfl⟩
theorem r7Over (a b : Int) (ha : 0 ≤ a) (hb : 0 ≤ b) (w : World) :
    Calls Try.prog 23 #[.int .u64 a, .int .u64 b] w fun e w' => e = .returned (.int .u64 ((Obol.overR a.toNat b.toNat : Nat) : Int)) ∧ ∃ n, w' = w.drewN n := by
  go_enter Try.func23, Try.ntmps23
  go_wp2_with (first | (go_at_call 26; refine (R1Pow2 _ hb _).mono ?_; rintro e w' ⟨rfl, rfl⟩) | (go_at_call 22; refine (r7Mul _ _ (by omega) (by omega) _).mono ?_; rintro e w' ⟨rfl, n, rfl⟩))
  go_ret
  refine ⟨?_, _, rfl⟩
  show Ending.returned (.int .u64 ((Obol.mulR a.toNat (Obol.invR b.toNat) : Nat) : Int)) = _
  rw [Obol.overR]

theorem isN_near2 {x y : Nat} (h1 : x < 288230376287764481) (h2 : y < 288230376287764481) :
    Obol.isN (x, y) = (((Obol.mulR y y : Nat) : Int) == ((Obol.addR (Obol.mulR x x) (Obol.addR 1 (Obol.mulR 439 (Obol.mulR (Obol.mulR x x) (Obol.mulR y y)))) : Nat) : Int)) := by
  rw [isN_near h1 h2, Bool.eq_iff_iff, beq_iff_eq, beq_iff_eq, Int.ofNat_inj, Int.ofNat_inj]
  have h3 := Obol.mulR_lt y y
  have h4 := Obol.mulR_lt x x
  have h5 : Obol.addR 1 (Obol.mulR 439 (Obol.mulR (Obol.mulR x x) (Obol.mulR y y))) < Obol.R := by rw [Obol.addR_eq]; exact Nat.mod_lt _ Obol.R_pos
  generalize Obol.addR 1 (Obol.mulR 439 (Obol.mulR (Obol.mulR x x) (Obol.mulR y y))) = c at *
  generalize Obol.mulR x x = a at *
  generalize Obol.mulR y y = b at *
  rw [Obol.addR_eq, Obol.subR_eq, Obol.addQ, Obol.subQ]
  rw [Obol.R_def] at *
  omega

theorem r7Is (X Y : Int) (hX : 0 ≤ X) (hY : 0 ≤ Y) (w : World) :
    Calls Try.prog 11 #[edV X Y] w fun e w' => e = .returned (.bool (Obol.isN (X.toNat, Y.toNat))) ∧ Below w.heap.size w w' := by
  by_cases h1 : (288230376287764481 : Int) ≤ X
  · have hr := Lib.hid (isN_far1 (x := X.toNat) (y := Y.toNat) (by omega))
    go_enter Try.func11, Try.ntmps11
    go_wp2_with fail
    go_ret
    exact ⟨by rw [hr.out]; rfl, by repeat (first | exact Below.refl _ _ | assumption | apply bDrewN | apply bDrew | apply bAlloc | refine bSet ?_ (by omega) | refine bThen ?_ (by assumption) (by simp <;> omega))⟩
  · by_cases h2 : (288230376287764481 : Int) ≤ Y
    · have hr := Lib.hid (isN_far2 (x := X.toNat) (y := Y.toNat) (by omega))
      go_enter Try.func11, Try.ntmps11
      go_wp2_with fail
      go_ret
      exact ⟨by rw [hr.out]; rfl, by repeat (first | exact Below.refl _ _ | assumption | apply bDrewN | apply bDrew | apply bAlloc | refine bSet ?_ (by omega) | refine bThen ?_ (by assumption) (by simp <;> omega))⟩
    · have hr := Lib.hid (isN_near2 (x := X.toNat) (y := Y.toNat) (by omega) (by omega))
      go_enter Try.func11, Try.ntmps11
      go_wp2_with (first | (go_at_call 22; refine (r7Mul _ _ (by omega) (by omega) _).mono ?_; rintro e w' ⟨rfl, n, rfl⟩) | (go_at_call 25; refine (r7Plus _ _ (by omega) (by omega) _).mono ?_; rintro e w' ⟨rfl, n, rfl⟩))
      go_ret
      exact ⟨by rw [hr.out]; rfl, by repeat (first | exact Below.refl _ _ | assumption | apply bDrewN | apply bDrew | apply bAlloc | refine bSet ?_ (by omega) | refine bThen ?_ (by assumption) (by simp <;> omega))⟩

end Go.Proofs.Ytcdfpceagobicaa
