import Derived.Test.YtcdfpceagobicaaDoorWroot
/- Walks: package edwards: the X of a Y. -/
namespace Go.Proofs.YtcdfpceagobicaaDoor
open Go.RowKit

theorem root_zero {a : Nat} (h : a % Obol.R = 0) : Obol.rootN a = 0 := by
  have hs : Obol.sqB a = true := by unfold Obol.sqB; rw [h]; rfl
  exact (Obol.rootN_is hs (x := 0) (by omega) (by rw [h]; rfl)).symm
theorem rootV_yes {a : Nat} (h : Obol.sqB a = true) : rootV a = .tuple #[.int .u64 (Obol.rootN a : Nat), .nilIface] := by
  unfold rootV
  rw [if_pos h]
  split
  · rename_i h0
    rw [root_zero h0]
    rfl
  · rfl
theorem rootV_no {a : Nat} (h : Obol.sqB a = false) : rootV a = .tuple #[.int .u64 0, errV 2] := by
  unfold rootV
  rw [h]
  rfl

/-- What X times X is, at a Y. -/
noncomputable def sqY (y : Nat) : Nat := Obol.overR (Obol.subR (Obol.mulR y y) 1) (Obol.addR 1 (Obol.mulR 439 (Obol.mulR y y)))

theorem eSide (y : Int) (hy : 0 ≤ y) (w : World) :
    Calls Tryd.prog 35 #[.int .u64 y] w fun e w' => e = .returned (rootV (sqY y.toNat)) ∧ ∃ n, w' = w.drewN n := by
  have hq : sqY y.toNat = Obol.overR (Obol.subR (Obol.mulR y.toNat y.toNat) 1) (Obol.addR 1 (Obol.mulR 439 (Obol.mulR y.toNat y.toNat))) := rfl
  have hR := fun w => mRoot ((Obol.overR (Obol.subR (Obol.mulR y.toNat y.toNat) 1) (Obol.addR 1 (Obol.mulR 439 (Obol.mulR y.toNat y.toNat))) : Nat)) (by omega) w
  rw [Int.toNat_natCast, ← hq] at hR
  cases hs : Obol.sqB (sqY y.toNat)
  · rw [rootV_no hs] at hR ⊢
    replace hR := Lib.hid hR
    clear hs hq
    go_enter Tryd.func35, Tryd.ntmps35
    go_wp2_with (first | (go_at_call 45; refine (hR.out _).mono ?_; rintro e w' ⟨rfl, n, rfl⟩) | (go_at_call 33; refine (eMul _ _ (by omega) (by omega) _).mono ?_; rintro e w' ⟨rfl, n, rfl⟩) | (go_at_call 41; refine (RAdd _ _ (by omega) (by omega) _).mono ?_; rintro e w' ⟨rfl, n, rfl⟩) | (go_at_call 40; refine (RSub _ _ (by omega) (by omega) _).mono ?_; rintro e w' ⟨rfl, n, rfl⟩) | (go_at_call 42; refine (eOver _ _ (by omega) (by omega) _).mono ?_; rintro e w' ⟨rfl, n, rfl⟩))
    go_ret2
    exact ⟨rfl, _, rfl⟩
  · rw [rootV_yes hs] at hR ⊢
    replace hR := Lib.hid hR
    clear hs hq
    go_enter Tryd.func35, Tryd.ntmps35
    go_wp2_with (first | (go_at_call 45; refine (hR.out _).mono ?_; rintro e w' ⟨rfl, n, rfl⟩) | (go_at_call 33; refine (eMul _ _ (by omega) (by omega) _).mono ?_; rintro e w' ⟨rfl, n, rfl⟩) | (go_at_call 41; refine (RAdd _ _ (by omega) (by omega) _).mono ?_; rintro e w' ⟨rfl, n, rfl⟩) | (go_at_call 40; refine (RSub _ _ (by omega) (by omega) _).mono ?_; rintro e w' ⟨rfl, n, rfl⟩) | (go_at_call 42; refine (eOver _ _ (by omega) (by omega) _).mono ?_; rintro e w' ⟨rfl, n, rfl⟩))
    go_ret2
    exact ⟨rfl, _, rfl⟩

end Go.Proofs.YtcdfpceagobicaaDoor
