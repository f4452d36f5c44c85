import Derived.Test.YtcdfpceagobicaaDoorWpow
import Derived.Test.YtcdfpceagobicaaDoorPoint
import Derived.Test.YtcdfpceagobicaaDoorWrow
/- Walks: package edwards: what is reckoned with numbers; whether a pair is a point. -/
namespace Go.Proofs.YtcdfpceagobicaaDoor
open Go.RowKit

abbrev edV (X Y : Int) : Value := .agg #[.int .u64 X, .int .u64 Y]

theorem RAdd (a b : Int) (ha : 0 ≤ a) (hb : 0 ≤ b) (w : World) :
    Calls Tryd.prog 41 #[.int .u64 288230376287764481, .int .u64 a, .int .u64 b] w fun e w' => e = .returned (.int .u64 ((Obol.addR a.toNat b.toNat : Nat) : Int)) ∧ ∃ n, w' = w.drewN n :=
  by rw [Obol.addR_eq]; exact mAdd _ a b (by omega) (by omega) ha hb w
theorem RSub (a b : Int) (ha : 0 ≤ a) (hb : 0 ≤ b) (w : World) :
    Calls Tryd.prog 40 #[.int .u64 288230376287764481, .int .u64 a, .int .u64 b] w fun e w' => e = .returned (.int .u64 ((Obol.subR a.toNat b.toNat : Nat) : Int)) ∧ ∃ n, w' = w.drewN n :=
  by rw [Obol.subR_eq]; exact mSub _ a b (by omega) (by omega) ha hb w
theorem RMul (a b : Int) (ha : 0 ≤ a) (hb : 0 ≤ b) (w : World) :
    Calls Tryd.prog 44 #[.int .u64 288230376287764481, .int .u64 a, .int .u64 b] w fun e w' => e = .returned (.int .u64 ((Obol.mulR a.toNat b.toNat : Nat) : Int)) ∧ ∃ n, w' = w.drewN n :=
  by rw [Obol.mulR_eq]; exact mMul _ a b (by omega) (by omega) ha hb w

theorem eMul (a b : Int) (ha : 0 ≤ a) (hb : 0 ≤ b) (w : World) :
    Calls Tryd.prog 33 #[.int .u64 a, .int .u64 b] w fun e w' => e = .returned (.int .u64 ((Obol.mulR a.toNat b.toNat : Nat) : Int)) ∧ ∃ n, w' = w.drewN n := by
  go_enter Tryd.func33, Tryd.ntmps33
  go_wp2_with (go_at_call 44; refine (RMul _ _ ha hb _).mono ?_; rintro e w' ⟨rfl, n, rfl⟩)
  go_ret
  exact ⟨rfl, _, rfl⟩

theorem litR : (288230376287764481 : Int).toNat = Obol.R := by decide +kernel
theorem litR2 : (288230376287764479 : Int).toNat = Obol.R - 2 := by decide +kernel
theorem RPow2 (b : Int) (hb : 0 ≤ b) (w : World) :
    Calls Tryd.prog 32 #[.int .u64 288230376287764481, .int .u64 b, .int .u64 288230376287764479] w fun e w' => e = .returned (.int .u64 ((Obol.invR b.toNat : Nat) : Int)) ∧ ∃ n, w' = w.drewN n := by
  have h := mPow 288230376287764481 b 288230376287764479 (by omega) (by omega) hb (by omega) (by omega) w
  rw [litR, litR2] at h
  rw [Obol.powM, ← Obol.invR_eq] at h
  exact h

theorem eOver (a b : Int) (ha : 0 ≤ a) (hb : 0 ≤ b) (w : World) :
    Calls Tryd.prog 42 #[.int .u64 a, .int .u64 b] w fun e w' => e = .returned (.int .u64 ((Obol.overR a.toNat b.toNat : Nat) : Int)) ∧ ∃ n, w' = w.drewN n := by
  go_enter Tryd.func42, Tryd.ntmps42
  go_wp2_with (first | (go_at_call 32; refine (RPow2 _ hb _).mono ?_; rintro e w' ⟨rfl, n, rfl⟩) | (go_at_call 33; refine (eMul _ _ ha (by omega) _).mono ?_; rintro e w' ⟨rfl, n', rfl⟩))
  go_ret
  refine ⟨?_, _, rfl⟩
  show Ending.returned (.int .u64 ((Obol.mulR a.toNat (Obol.invR b.toNat) : Nat) : Int)) = _
  rw [Obol.overR]

theorem isN_far1 {x y : Nat} (h : 288230376287764481 ≤ x) : Obol.isN (x, y) = false := by
  unfold Obol.isN
  rw [decide_eq_false (show ¬ x < Obol.R by rw [Obol.R_def]; omega)]
  rfl
theorem isN_far2 {x y : Nat} (h : 288230376287764481 ≤ y) : Obol.isN (x, y) = false := by
  unfold Obol.isN
  rw [decide_eq_false (show ¬ y < Obol.R by rw [Obol.R_def]; omega), Bool.and_false, Bool.false_and]
theorem isN_near {x y : Nat} (h1 : x < 288230376287764481) (h2 : y < 288230376287764481) :
    Obol.isN (x, y) = (((Obol.subR (Obol.mulR y y) (Obol.mulR x x) : Nat) : Int) == ((Obol.addR 1 (Obol.mulR 439 (Obol.mulR (Obol.mulR x x) (Obol.mulR y y))) : Nat) : Int)) := by
  unfold Obol.isN
  rw [decide_eq_true (show x < Obol.R by rw [Obol.R_def]; omega), decide_eq_true (show y < Obol.R by rw [Obol.R_def]; omega), Bool.true_and, Bool.true_and, Bool.eq_iff_iff, decide_eq_true_eq, beq_iff_eq, Int.ofNat_inj]

theorem eIs (X Y : Int) (hX : 0 ≤ X) (hY : 0 ≤ Y) (w : World) :
    Calls Tryd.prog 27 #[edV X Y] w fun e w' => e = .returned (.bool (Obol.isN (X.toNat, Y.toNat))) ∧ Below w.heap.size w w' := by
  by_cases h1 : (288230376287764481 : Int) ≤ X
  · have hr := Lib.hid (isN_far1 (x := X.toNat) (y := Y.toNat) (by omega))
    go_enter Tryd.func27, Tryd.ntmps27
    go_wp2_with fail
    go_ret
    exact ⟨by rw [hr.out]; rfl, by repeat (first | exact Below.refl _ _ | assumption | apply bDrewN | apply bDrew | apply bAlloc | refine bSet ?_ (by omega) | refine bThen ?_ (by assumption) (by simp <;> omega))⟩
  · by_cases h2 : (288230376287764481 : Int) ≤ Y
    · have hr := Lib.hid (isN_far2 (x := X.toNat) (y := Y.toNat) (by omega))
      go_enter Tryd.func27, Tryd.ntmps27
      go_wp2_with fail
      go_ret
      exact ⟨by rw [hr.out]; rfl, by repeat (first | exact Below.refl _ _ | assumption | apply bDrewN | apply bDrew | apply bAlloc | refine bSet ?_ (by omega) | refine bThen ?_ (by assumption) (by simp <;> omega))⟩
    · have hr := Lib.hid (isN_near (x := X.toNat) (y := Y.toNat) (by omega) (by omega))
      go_enter Tryd.func27, Tryd.ntmps27
      go_wp2_with fail
      go_quiet ((go_at_call 33; exact Calls.quiet_of (eMul _ _ (by omega) (by omega) _)))
      go_wp2_with (first | (go_at_call 33; refine (eMul _ _ (by omega) (by omega) _).mono ?_; rintro e w' ⟨rfl, n, rfl⟩) | (go_at_call 41; refine (RAdd _ _ (by omega) (by omega) _).mono ?_; rintro e w' ⟨rfl, n, rfl⟩) | (go_at_call 40; refine (RSub _ _ (by omega) (by omega) _).mono ?_; rintro e w' ⟨rfl, n, rfl⟩))
      go_ret
      exact ⟨by rw [hr.out]; rfl, by repeat (first | exact Below.refl _ _ | assumption | apply bDrewN | apply bDrew | apply bAlloc | refine bSet ?_ (by omega) | refine bThen ?_ (by assumption) (by simp <;> omega))⟩

/-- A result that lies in a new variable. -/
theorem eZero (w : World) :
    Calls Tryd.prog 36 #[] w fun e w' => e = .returned (edV 0 1) ∧ Below w.heap.size w w' := by
  go_enter Tryd.func36, Tryd.ntmps36
  go_wp2_with fail
  refine bodyPost_ret (v := edV 0 1) (by simp [results, Tryd.results36, go_sem]) rfl ⟨rfl, ?_⟩
  repeat (first | exact Below.refl _ _ | apply bDrewN | apply bAlloc)

theorem eSum (X Y X' Y' : Int) (hX : 0 ≤ X) (hY : 0 ≤ Y) (hX' : 0 ≤ X') (hY' : 0 ≤ Y') (w : World) :
    Calls Tryd.prog 29 #[edV X Y, edV X' Y'] w fun e w' =>
      e = .returned (edV ((Obol.sumN (X.toNat, Y.toNat) (X'.toNat, Y'.toNat)).1 : Nat) ((Obol.sumN (X.toNat, Y.toNat) (X'.toNat, Y'.toNat)).2 : Nat)) ∧ Below w.heap.size w w' := by
  go_enter Tryd.func29, Tryd.ntmps29
  go_wp2_with fail
  go_quiet ((first | (go_at_call 33; first | (refine Calls.quiet_of (eMul _ _ ?_ ?_ _) <;> omega) | (refine quiet_add (eMul _ _ ?_ ?_ _) <;> omega))))
  go_wp2_with (first | (go_at_call 33; refine (eMul _ _ (by omega) (by omega) _).mono ?_; rintro e w' ⟨rfl, n, rfl⟩))
  go_quiet ((first | (go_at_call 33; first | (refine Calls.quiet_of (eMul _ _ ?_ ?_ _) <;> omega) | (refine quiet_add (eMul _ _ ?_ ?_ _) <;> omega)) | (go_at_call 41; first | (refine Calls.quiet_of (RAdd _ _ ?_ ?_ _) <;> omega) | (refine quiet_add (RAdd _ _ ?_ ?_ _) <;> omega))))
  go_wp2_with (first | (go_at_call 42; refine (eOver _ _ (by omega) (by omega) _).mono ?_; rintro e w' ⟨rfl, n, rfl⟩) | (go_at_call 41; refine (RAdd _ _ (by omega) (by omega) _).mono ?_; rintro e w' ⟨rfl, n, rfl⟩) | (go_at_call 40; refine (RSub _ _ (by omega) (by omega) _).mono ?_; rintro e w' ⟨rfl, n, rfl⟩))
  refine bodyPost_ret (v := edV _ _) (by simp [results, Tryd.results29, go_sem]; exact ⟨rfl, rfl⟩) rfl ⟨?_, ?_⟩
  · rfl
  · repeat (first | exact Below.refl _ _ | assumption | apply bDrewN | apply bDrew | apply bAlloc | refine bSet ?_ (by omega) | refine bThen ?_ (by assumption) (by simp <;> omega))

theorem eSure (X Y : Int) (hX : 0 ≤ X) (hY : 0 ≤ Y) (w : World) :
    Calls Tryd.prog 30 #[edV X Y] w fun e w' => e = .returned (edV ((Obol.sureN (X.toNat, Y.toNat)).1 : Nat) ((Obol.sureN (X.toNat, Y.toNat)).2 : Nat)) ∧ Below w.heap.size w w' := by
  by_cases hi : Obol.isN (X.toNat, Y.toNat) = true
  · have hI := Lib.hid hi
    have hR : Hid (Ending.returned (edV X Y) = .returned (edV ((Obol.sureN (X.toNat, Y.toNat)).1 : Nat) ((Obol.sureN (X.toNat, Y.toNat)).2 : Nat))) := by
      show _ = _
      rw [Obol.sureN, if_pos hi, Int.toNat_of_nonneg hX, Int.toNat_of_nonneg hY]
    clear hi
    go_enter Tryd.func30, Tryd.ntmps30
    go_wp2_with (go_at_call 27; refine (eIs _ _ (by omega) (by omega) _).mono ?_; rintro e w1 ⟨rfl, hb⟩; rw [hI.out]; obtain ⟨hc, hf⟩ := bcell hb; have hz := hb.size; (try simp at hz))
    refine bodyPost_ret (v := edV X Y) (by simp [results, Tryd.results30, go_sem, hc]) rfl ⟨hR.out, ?_⟩
    repeat (first | exact Below.refl _ _ | assumption | apply bDrewN | apply bDrew | apply bAlloc | refine bSet ?_ (by omega) | refine bThen ?_ (by assumption) (by simp <;> omega))
  · have hI := Lib.hid (Bool.eq_false_iff.2 hi)
    have hR : Hid (Ending.returned (edV 0 1) = .returned (edV ((Obol.sureN (X.toNat, Y.toNat)).1 : Nat) ((Obol.sureN (X.toNat, Y.toNat)).2 : Nat))) := by
      show _ = _
      rw [Obol.sureN, if_neg hi]
      rfl
    clear hi
    go_enter Tryd.func30, Tryd.ntmps30
    go_wp2_with (first | (go_at_call 27; refine (eIs _ _ (by omega) (by omega) _).mono ?_; rintro e w1 ⟨rfl, hb⟩; rw [hI.out]; obtain ⟨hc, hf⟩ := bcell hb; have hz := hb.size; (try simp at hz)) | (go_at_call 36; refine (eZero _).mono ?_; rintro e w2 ⟨rfl, hb2⟩; replace hb := bThen hb hb2 hb.size; clear hb2; obtain ⟨hc2, hf2⟩ := bcell hb; have hz2 := hb.size; (try simp at hz2)))
    refine bodyPost_ret (v := edV 0 1) (by simp [results, Tryd.results30, go_sem, hc2]) rfl ⟨hR.out, ?_⟩
    repeat (first | exact Below.refl _ _ | assumption | apply bDrewN | apply bDrew | apply bAlloc | refine bSet ?_ (by omega) | refine bThen ?_ (by assumption) (by simp <;> omega))

end Go.Proofs.YtcdfpceagobicaaDoor
