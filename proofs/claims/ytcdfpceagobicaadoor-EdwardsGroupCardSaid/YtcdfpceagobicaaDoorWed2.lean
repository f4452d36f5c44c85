import Derived.Test.YtcdfpceagobicaaDoorWed
import Derived.Deep.RegionWith
import Derived.Deep.RegionHeld3
/- Walks: package edwards: sums of whatever, opposites. -/
namespace Go.Proofs.YtcdfpceagobicaaDoor
open Go.RowKit

set_option maxHeartbeats 1000000 in
theorem eAdd (X Y X' Y' : Int) (hX : 0 ≤ X) (hY : 0 ≤ Y) (hX' : 0 ≤ X') (hY' : 0 ≤ Y') (w : World) :
    Calls Tryd.prog 14 #[edV X Y, edV X' Y'] w fun e w' =>
      e = .returned (edV ((Obol.sumN (Obol.sureN (X.toNat, Y.toNat)) (Obol.sureN (X'.toNat, Y'.toNat))).1 : Nat) ((Obol.sumN (Obol.sureN (X.toNat, Y.toNat)) (Obol.sureN (X'.toNat, Y'.toNat))).2 : Nat)) ∧ Below w.heap.size w w' := by
  go_enter Tryd.func14, Tryd.ntmps14
  go_wp2_with fail
  go_region_with (first | (go_at_call 29; refine (eSum _ _ _ _ (by omega) (by omega) (by omega) (by omega) _).mono ?_; rintro e w3 ⟨rfl, hb3⟩; replace hb := bThen hb hb3 hb.size; clear hb3; obtain ⟨hc3, hf3⟩ := bcell hb; have hz3 := hb.size; (try simp at hz3)) | (go_at_call_of 30 (Value.agg #[Value.int IntKind.u64 X, Value.int IntKind.u64 Y]); refine (eSure _ _ (by omega) (by omega) _).mono ?_; rintro e w1 ⟨rfl, hb⟩; obtain ⟨hc, hf⟩ := bcell hb; have hz := hb.size; (try simp at hz)) | (go_at_call_of 30 (Value.agg #[Value.int IntKind.u64 X', Value.int IntKind.u64 Y']); refine (eSure _ _ (by omega) (by omega) _).mono ?_; rintro e w2 ⟨rfl, hb2⟩; replace hb := bThen hb hb2 hb.size; clear hb2; obtain ⟨hc2, hf2⟩ := bcell hb; have hz2 := hb.size; (try simp at hz2)))
  all_goals
    go_wp2
    refine bodyPost_ret (v := edV _ _) (by simp [results, Tryd.results14, go_sem, hc3]) rfl ⟨rfl, ?_⟩
    repeat (first | exact Below.refl _ _ | assumption | apply bDrewN | apply bDrew | apply bAlloc | refine bSet ?_ (by omega) | refine bThen ?_ (by assumption) (by simp <;> omega))

set_option maxHeartbeats 1000000 in
theorem eNeg (X Y : Int) (hX : 0 ≤ X) (hY : 0 ≤ Y) (w : World) :
    Calls Tryd.prog 28 #[edV X Y] w fun e w' =>
      e = .returned (edV ((Obol.subR 0 (Obol.sureN (X.toNat, Y.toNat)).1 : Nat)) ((Obol.sureN (X.toNat, Y.toNat)).2 : Nat)) ∧ Below w.heap.size w w' := by
  go_enter Tryd.func28, Tryd.ntmps28
  go_wp2_with fail
  refine (eSure _ _ (by omega) (by omega) _).mono ?_
  rintro e w1 ⟨rfl, hb⟩
  obtain ⟨hc, hf⟩ := bcell hb; have hz := hb.size; (try simp at hz)
  have g0 : w1.cell? ⟨w.heap.size, 0, none⟩ = some (.int .u64 X) := (hc _ _ (by simp; omega)).trans (by rw [World.cell?_alloc_past _ _ _ (by simp), World.cell?_alloc_at _ _ _ _ rfl]; rfl)
  have g1 : w1.cell? ⟨w.heap.size, 1, none⟩ = some (.int .u64 Y) := (hc _ _ (by simp; omega)).trans (by rw [World.cell?_alloc_past _ _ _ (by simp), World.cell?_alloc_at _ _ _ _ rfl]; rfl)
  have g2 : w1.cell? ⟨w.heap.size + 1, 0, none⟩ = some (.int .u64 0) := (hc _ _ (by simp)).trans (by rw [World.cell?_alloc_at _ _ _ _ (by simp)]; rfl)
  have g3 : w1.cell? ⟨w.heap.size + 1, 1, none⟩ = some (.int .u64 0) := (hc _ _ (by simp)).trans (by rw [World.cell?_alloc_at _ _ _ _ (by simp)]; rfl)
  go_wp2_with (go_at_call 40; refine (RSub _ _ (by omega) (by omega) _).mono ?_; rintro e w' ⟨rfl, n, rfl⟩)
  clear hc hf
  refine bodyPost_ret (v := edV (Obol.subR 0 (Obol.sureN (X.toNat, Y.toNat)).1 : Nat) ((Obol.sureN (X.toNat, Y.toNat)).2 : Nat)) (by simp [results, Tryd.results28, go_sem, g2, g3]) rfl ⟨rfl, ?_⟩
  repeat (first | exact Below.refl _ _ | assumption | apply bDrewN | apply bDrew | apply bAlloc | refine bSet ?_ (by omega) | refine bThen ?_ (by assumption) (by simp <;> omega))

abbrev scV (X Y Z : Int) : Value := .agg #[.int .u64 X, .int .u64 Y, .int .u64 Z]

theorem eTogether (X Y Z X' Y' Z' : Int) (hX : 0 ≤ X) (hY : 0 ≤ Y) (hZ : 0 ≤ Z) (hX' : 0 ≤ X') (hY' : 0 ≤ Y') (hZ' : 0 ≤ Z') (w : World) :
    Calls Tryd.prog 31 #[scV X Y Z, scV X' Y' Z'] w fun e w' =>
      e = .returned (scV (Obol.togN (X.toNat, Y.toNat, Z.toNat) (X'.toNat, Y'.toNat, Z'.toNat)).1 (Obol.togN (X.toNat, Y.toNat, Z.toNat) (X'.toNat, Y'.toNat, Z'.toNat)).2.1 (Obol.togN (X.toNat, Y.toNat, Z.toNat) (X'.toNat, Y'.toNat, Z'.toNat)).2.2) ∧ Below w.heap.size w w' := by
  go_enter Tryd.func31, Tryd.ntmps31
  go_wp2_with (first | (go_at_call 33; refine (eMul _ _ (by omega) (by omega) _).mono ?_; rintro e w' ⟨rfl, n, rfl⟩))
  go_quiet ((first | (go_at_call 33; first | (refine Calls.quiet_of (eMul _ _ ?_ ?_ _) <;> omega) | (refine quiet_add (eMul _ _ ?_ ?_ _) <;> omega))))
  go_wp2_with (first | (go_at_call 33; refine (eMul _ _ (by omega) (by omega) _).mono ?_; rintro e w' ⟨rfl, n, rfl⟩) | (go_at_call 41; refine (RAdd _ _ (by omega) (by omega) _).mono ?_; rintro e w' ⟨rfl, n, rfl⟩) | (go_at_call 40; refine (RSub _ _ (by omega) (by omega) _).mono ?_; rintro e w' ⟨rfl, n, rfl⟩))
  go_quiet ((first | (go_at_call 33; first | (refine Calls.quiet_of (eMul _ _ ?_ ?_ _) <;> omega) | (refine quiet_add (eMul _ _ ?_ ?_ _) <;> omega)) | (go_at_call 41; first | (refine Calls.quiet_of (RAdd _ _ ?_ ?_ _) <;> omega) | (refine quiet_add (RAdd _ _ ?_ ?_ _) <;> omega))))
  go_wp2_with (first | (go_at_call 33; refine (eMul _ _ (by omega) (by omega) _).mono ?_; rintro e w' ⟨rfl, n, rfl⟩) | (go_at_call 41; refine (RAdd _ _ (by omega) (by omega) _).mono ?_; rintro e w' ⟨rfl, n, rfl⟩) | (go_at_call 40; refine (RSub _ _ (by omega) (by omega) _).mono ?_; rintro e w' ⟨rfl, n, rfl⟩))
  refine bodyPost_ret (v := scV _ _ _) (by simp [results, Tryd.results31, go_sem]; exact ⟨rfl, rfl, rfl⟩) rfl ⟨rfl, ?_⟩
  repeat (first | exact Below.refl _ _ | assumption | apply bDrewN | apply bDrew | apply bAlloc | refine bSet ?_ (by omega) | refine bThen ?_ (by assumption) (by simp <;> omega))

end Go.Proofs.YtcdfpceagobicaaDoor
