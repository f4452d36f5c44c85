import Derived.Test.YtgafgfmoofjmmaaWup7
/- Walks: packages edwards, obolref07: points of order S. -/
namespace Go.Proofs.Ytgafgfmoofjmmaa
open Go.RowKit

/-- Whether a pair is a point of order S. -/
noncomputable def inN (p : Nat × Nat) : Bool := Obol.isN p && decide (Obol.smulN p 72057593894066549 = (0, 1))
theorem litS : (72057593894066549 : Int).toNat = 72057593894066549 := by decide +kernel
theorem inN_far {p : Nat × Nat} (h : Obol.isN p = false) : inN p = false := by unfold inN; rw [h]; rfl
theorem inN_near {p : Nat × Nat} (h : Obol.isN p = true) : inN p = ((((Obol.smulN p 72057593894066549).1 : Nat) : Int) == 0 && (((Obol.smulN p 72057593894066549).2 : Nat) : Int) == 1) := by
  unfold inN
  rw [h, Bool.true_and, Bool.eq_iff_iff, Bool.and_eq_true, decide_eq_true_eq, beq_iff_eq, beq_iff_eq, Prod.ext_iff]
  simp only
  omega

theorem eIn (X Y : Int) (hX : 0 ≤ X) (hY : 0 ≤ Y) (w : World) :
    Calls Try.prog 28 #[edV X Y] w fun e w' => e = .returned (.bool (inN (X.toNat, Y.toNat))) ∧ Below w.heap.size w w' := by
  by_cases hi : Obol.isN (X.toNat, Y.toNat) = true
  · have hr := Lib.hid (inN_near hi)
    have hI := Lib.hid hi
    have hM := Lib.hid (fun w => eMulK X Y 72057593894066549 hX hY (by omega) (by omega) w)
    rw [litS] at hM
    generalize (((Obol.smulN (X.toNat, Y.toNat) 72057593894066549).1 : Nat) : Int) = mx at hr hM
    generalize (((Obol.smulN (X.toNat, Y.toNat) 72057593894066549).2 : Nat) : Int) = my at hr hM
    clear hi
    go_enter Try.func28, Try.ntmps28
    go_wp2_with (first
      | (go_at_call 27; refine (eIs _ _ hX hY _).mono ?_; rintro e w1 ⟨rfl, hb⟩; rw [hI.out]; obtain ⟨hc, hf⟩ := bcell hb; have hz := hb.size; (try simp at hz))
      | (go_at_call 25; refine (hM.out _).mono ?_; rintro e w2 ⟨rfl, hb2⟩; replace hb := bThen hb hb2 hb.size; clear hb2; obtain ⟨hc2, hf2⟩ := bcell hb; have hz2 := hb.size; (try simp at hz2))
      | (go_at_call 68; refine (eZero _).mono ?_; rintro e w3 ⟨rfl, hb3⟩; replace hb := bThen hb hb3 hb.size; clear hb3; obtain ⟨hc3, hf3⟩ := bcell hb; have hz3 := hb.size; (try simp at hz3)))
    all_goals
      go_ret
      refine ⟨?_, by repeat (first | exact Below.refl _ _ | assumption | apply bDrewN | apply bDrew | apply bAlloc | refine bSet ?_ (by omega) | refine bThen ?_ (by assumption) (by simp <;> omega))⟩
      rw [hr.out]
      first | (rename_i h1 h2; simp [h1, h2]) | (rename_i h1; simp [h1])
  · have hr := Lib.hid (inN_far (Bool.eq_false_iff.2 hi))
    have hI := Lib.hid (Bool.eq_false_iff.2 hi)
    clear hi
    go_enter Try.func28, Try.ntmps28
    go_wp2_with (go_at_call 27; refine (eIs _ _ hX hY _).mono ?_; rintro e w1 ⟨rfl, hb⟩; rw [hI.out]; obtain ⟨hc, hf⟩ := bcell hb; have hz := hb.size; (try simp at hz))
    go_ret
    exact ⟨by rw [hr.out]; rfl, by repeat (first | exact Below.refl _ _ | assumption | apply bDrewN | apply bDrew | apply bAlloc | refine bSet ?_ (by omega) | refine bThen ?_ (by assumption) (by simp <;> omega))⟩

theorem sure_of {p : Nat × Nat} (h : Obol.isN p = true) : Obol.sureN p = p := by unfold Obol.sureN; rw [if_pos h]
theorem times_is (p : Nat × Nat) (k : Nat) (hk : k < 2 ^ 64) : Obol.timesN (Obol.sureN p) k 64 Obol.zeroN = Obol.smulN p k := by
  rw [Obol.smulN_eq, Obol.sure_n, Obol.times_n _ _ hk]

theorem r7In (X Y : Int) (hX : 0 ≤ X) (hY : 0 ≤ Y) (w : World) :
    Calls Try.prog 29 #[edV X Y] w fun e w' => e = .returned (.bool (inN (X.toNat, Y.toNat))) ∧ Below w.heap.size w w' := by
  by_cases hi : Obol.isN (X.toNat, Y.toNat) = true
  · have hr := Lib.hid (inN_near hi)
    have hI := Lib.hid hi
    have hM := Lib.hid (fun w => r7Times X Y 72057593894066549 hX hY (by omega) (by omega) w)
    have ht := times_is (X.toNat, Y.toNat) 72057593894066549 (by decide +kernel)
    rw [sure_of hi] at ht
    rw [litS, ht] at hM
    clear ht
    generalize (((Obol.smulN (X.toNat, Y.toNat) 72057593894066549).1 : Nat) : Int) = mx at hr hM
    generalize (((Obol.smulN (X.toNat, Y.toNat) 72057593894066549).2 : Nat) : Int) = my at hr hM
    clear hi
    go_enter Try.func29, Try.ntmps29
    go_wp2_with (first
      | (go_at_call 23; refine (r7Is _ _ hX hY _).mono ?_; rintro e w1 ⟨rfl, hb⟩; rw [hI.out]; obtain ⟨hc, hf⟩ := bcell hb; have hz := hb.size; (try simp at hz))
      | (go_at_call 26; refine (hM.out _).mono ?_; rintro e w2 ⟨rfl, hb2⟩; replace hb := bThen hb hb2 hb.size; clear hb2; obtain ⟨hc2, hf2⟩ := bcell hb; have hz2 := hb.size; (try simp at hz2)))
    all_goals
      go_ret
      refine ⟨?_, by repeat (first | exact Below.refl _ _ | assumption | apply bDrewN | apply bDrew | apply bAlloc | refine bSet ?_ (by omega) | refine bThen ?_ (by assumption) (by simp <;> omega))⟩
      rw [hr.out]
      first | (rename_i h1 h2; simp [h1, h2]) | (rename_i h1; simp [h1])
  · have hr := Lib.hid (inN_far (Bool.eq_false_iff.2 hi))
    have hI := Lib.hid (Bool.eq_false_iff.2 hi)
    clear hi
    go_enter Try.func29, Try.ntmps29
    go_wp2_with (go_at_call 23; refine (r7Is _ _ hX hY _).mono ?_; rintro e w1 ⟨rfl, hb⟩; rw [hI.out]; obtain ⟨hc, hf⟩ := bcell hb; have hz := hb.size; (try simp at hz))
    go_ret
    exact ⟨by rw [hr.out]; rfl, by repeat (first | exact Below.refl _ _ | assumption | apply bDrewN | apply bDrew | apply bAlloc | refine bSet ?_ (by omega) | refine bThen ?_ (by assumption) (by simp <;> omega))⟩

theorem r7Sure (X Y : Int) (hX : 0 ≤ X) (hY : 0 ≤ Y) (w : World) :
    Calls Try.prog 19 #[edV X Y] w fun e w' => e = .returned (edV ((Obol.sureN (X.toNat, Y.toNat)).1 : Nat) ((Obol.sureN (X.toNat, Y.toNat)).2 : Nat)) ∧ Below w.heap.size w w' := by
  by_cases hi : Obol.isN (X.toNat, Y.toNat) = true
  · have hI := Lib.hid hi
    have hR : Hid (Ending.returned (edV X Y) = .returned (edV ((Obol.sureN (X.toNat, Y.toNat)).1 : Nat) ((Obol.sureN (X.toNat, Y.toNat)).2 : Nat))) := by
      show _ = _
      rw [Obol.sureN, if_pos hi, Int.toNat_of_nonneg hX, Int.toNat_of_nonneg hY]
    clear hi
    go_enter Try.func19, Try.ntmps19
    go_wp2_with (go_at_call 23; refine (r7Is _ _ (by omega) (by omega) _).mono ?_; rintro e w1 ⟨rfl, hb⟩; rw [hI.out]; obtain ⟨hc, hf⟩ := bcell hb; have hz := hb.size; (try simp at hz))
    refine bodyPost_ret (v := edV X Y) (by simp [results, Try.results19, go_sem, hc]) rfl ⟨hR.out, ?_⟩
    repeat (first | exact Below.refl _ _ | assumption | apply bDrewN | apply bDrew | apply bAlloc | refine bSet ?_ (by omega) | refine bThen ?_ (by assumption) (by simp <;> omega))
  · have hI := Lib.hid (Bool.eq_false_iff.2 hi)
    have hR : Hid (Ending.returned (edV 0 1) = .returned (edV ((Obol.sureN (X.toNat, Y.toNat)).1 : Nat) ((Obol.sureN (X.toNat, Y.toNat)).2 : Nat))) := by
      show _ = _
      rw [Obol.sureN, if_neg hi]
      rfl
    clear hi
    go_enter Try.func19, Try.ntmps19
    go_wp2_with (go_at_call 23; refine (r7Is _ _ (by omega) (by omega) _).mono ?_; rintro e w1 ⟨rfl, hb⟩; rw [hI.out]; obtain ⟨hc, hf⟩ := bcell hb; have hz := hb.size; (try simp at hz))
    refine bodyPost_ret (v := edV 0 1) (by simp [results, Try.results19, go_sem, hc]) rfl ⟨hR.out, ?_⟩
    repeat (first | exact Below.refl _ _ | assumption | apply bDrewN | apply bDrew | apply bAlloc | refine bSet ?_ (by omega) | refine bThen ?_ (by assumption) (by simp <;> omega))

end Go.Proofs.Ytgafgfmoofjmmaa
