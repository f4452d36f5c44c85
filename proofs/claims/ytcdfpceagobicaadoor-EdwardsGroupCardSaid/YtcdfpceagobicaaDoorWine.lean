import Derived.Test.YtcdfpceagobicaaDoorWup7
/- Walks: package edwards: points of order S. -/
namespace Go.Proofs.YtcdfpceagobicaaDoor
open Go.RowKit

/-- Whether a pair is a point of order S. -/
noncomputable def inN (p : Nat × Nat) : Bool := Obol.isN p && decide (Obol.smulN p 72057593894066549 = (0, 1))
theorem litS : (72057593894066549 : Int).toNat = 72057593894066549 := by decide +kernel
theorem inN_far {p : Nat × Nat} (h : Obol.isN p = false) : inN p = false := by unfold inN; rw [h]; rfl
theorem inN_near {p : Nat × Nat} (h : Obol.isN p = true) : inN p = ((((Obol.smulN p 72057593894066549).1 : Nat) : Int) == 0 && (((Obol.smulN p 72057593894066549).2 : Nat) : Int) == 1) := by
  unfold inN
  rw [h, Bool.true_and, Bool.eq_iff_iff, Bool.and_eq_true, decide_eq_true_eq, beq_iff_eq, beq_iff_eq, Prod.ext_iff]
  simp only
  omega

theorem eIn (X Y : Int) (hX : 0 ≤ X) (hY : 0 ≤ Y) (w : World) :
    Calls Tryd.prog 17 #[edV X Y] w fun e w' => e = .returned (.bool (inN (X.toNat, Y.toNat))) ∧ Below w.heap.size w w' := by
  by_cases hi : Obol.isN (X.toNat, Y.toNat) = true
  · have hr := Lib.hid (inN_near hi)
    have hI := Lib.hid hi
    have hM := Lib.hid (fun w => eMulK X Y 72057593894066549 hX hY (by omega) (by omega) w)
    rw [litS] at hM
    generalize (((Obol.smulN (X.toNat, Y.toNat) 72057593894066549).1 : Nat) : Int) = mx at hr hM
    generalize (((Obol.smulN (X.toNat, Y.toNat) 72057593894066549).2 : Nat) : Int) = my at hr hM
    clear hi
    go_enter Tryd.func17, Tryd.ntmps17
    go_wp2_with (first
      | (go_at_call 27; refine (eIs _ _ hX hY _).mono ?_; rintro e w1 ⟨rfl, hb⟩; rw [hI.out]; obtain ⟨hc, hf⟩ := bcell hb; have hz := hb.size; (try simp at hz))
      | (go_at_call 15; refine (hM.out _).mono ?_; rintro e w2 ⟨rfl, hb2⟩; replace hb := bThen hb hb2 hb.size; clear hb2; obtain ⟨hc2, hf2⟩ := bcell hb; have hz2 := hb.size; (try simp at hz2))
      | (go_at_call 36; refine (eZero _).mono ?_; rintro e w3 ⟨rfl, hb3⟩; replace hb := bThen hb hb3 hb.size; clear hb3; obtain ⟨hc3, hf3⟩ := bcell hb; have hz3 := hb.size; (try simp at hz3)))
    all_goals
      go_ret
      refine ⟨?_, by repeat (first | exact Below.refl _ _ | assumption | apply bDrewN | apply bDrew | apply bAlloc | refine bSet ?_ (by omega) | refine bThen ?_ (by assumption) (by simp <;> omega))⟩
      rw [hr.out]
      first | (rename_i h1 h2; simp [h1, h2]) | (rename_i h1; simp [h1])
  · have hr := Lib.hid (inN_far (Bool.eq_false_iff.2 hi))
    have hI := Lib.hid (Bool.eq_false_iff.2 hi)
    clear hi
    go_enter Tryd.func17, Tryd.ntmps17
    go_wp2_with (go_at_call 27; refine (eIs _ _ hX hY _).mono ?_; rintro e w1 ⟨rfl, hb⟩; rw [hI.out]; obtain ⟨hc, hf⟩ := bcell hb; have hz := hb.size; (try simp at hz))
    go_ret
    exact ⟨by rw [hr.out]; rfl, by repeat (first | exact Below.refl _ _ | assumption | apply bDrewN | apply bDrew | apply bAlloc | refine bSet ?_ (by omega) | refine bThen ?_ (by assumption) (by simp <;> omega))⟩

end Go.Proofs.YtcdfpceagobicaaDoor
