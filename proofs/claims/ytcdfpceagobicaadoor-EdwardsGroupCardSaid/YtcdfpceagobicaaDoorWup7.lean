import Derived.Test.YtcdfpceagobicaaDoorWed3
import Derived.Test.YtcdfpceagobicaaDoorOrder
/- Walks: package edwards: the first point; the head of the statements of layer 7. -/
namespace Go.Proofs.YtcdfpceagobicaaDoor
open Go.RowKit

theorem zero7 (w : World) :
    Calls Tryd.prog 18 #[] w fun e w' => e = .returned (edV 0 1) ∧ Below w.heap.size w w' := by
  go_enter Tryd.func18, Tryd.ntmps18
  go_wp2_with fail
  refine bodyPost_ret (v := edV 0 1) (by simp [results, Tryd.results18, go_sem]) rfl ⟨rfl, ?_⟩
  repeat (first | exact Below.refl _ _ | assumption | apply bDrewN | apply bDrew | apply bAlloc | refine bSet ?_ (by omega) | refine bThen ?_ (by assumption) (by simp <;> omega))
theorem eGen (w : World) :
    Calls Tryd.prog 26 #[] w fun e w' => e = .returned (edV 223588670687113535 82055451961885530) ∧ Below w.heap.size w w' := by
  go_enter Tryd.func26, Tryd.ntmps26
  go_wp2_with fail
  refine bodyPost_ret (v := edV 223588670687113535 82055451961885530) (by simp [results, Tryd.results26, go_sem]) rfl ⟨rfl, ?_⟩
  repeat (first | exact Below.refl _ _ | assumption | apply bDrewN | apply bDrew | apply bAlloc | refine bSet ?_ (by omega) | refine bThen ?_ (by assumption) (by simp <;> omega))

/-- What the head's calls come to. -/
theorem upIs (w : World) : Calls Tryd.prog 27 #[edV 223588670687113535 82055451961885530] w fun e w' => e = .returned (.bool true) ∧ Below w.heap.size w w' := by
  have h := eIs 223588670687113535 82055451961885530 (by omega) (by omega) w
  have e : Obol.isN ((223588670687113535 : Int).toNat, (82055451961885530 : Int).toNat) = true := by rw [Obol.isN_eq]; decide +kernel
  rw [e] at h
  exact h
theorem upMul (w : World) : Calls Tryd.prog 15 #[edV 223588670687113535 82055451961885530, .int .u64 72057593894066549] w fun e w' => e = .returned (edV 0 1) ∧ Below w.heap.size w w' := by
  have h := eMulK 223588670687113535 82055451961885530 72057593894066549 (by omega) (by omega) (by omega) (by omega) w
  have e : Obol.smulN ((223588670687113535 : Int).toNat, (82055451961885530 : Int).toNat) (72057593894066549 : Int).toNat = (0, 1) := by
    have e1 : ((223588670687113535 : Int).toNat, (82055451961885530 : Int).toNat) = Obol.Pnt.n Obol.G := Obol.G_n.symm
    have e2 : (72057593894066549 : Int).toNat = Obol.S := by decide +kernel
    rw [e1, e2, Obol.smulN_eq, Obol.of_n, Obol.G_S, Obol.zero_n]
    rfl
  rw [e] at h
  exact h
theorem sure_ok {p : Nat × Nat} (h : Obol.isQ p = true) : Obol.sureN p = p := by unfold Obol.sureN; rw [Obol.isN_eq, if_pos h]
theorem upNeg (w : World) : Calls Tryd.prog 28 #[edV 223588670687113535 82055451961885530] w fun e w' => e = .returned (edV 64641705600650946 82055451961885530) ∧ Below w.heap.size w w' := by
  have h := eNeg 223588670687113535 82055451961885530 (by omega) (by omega) w
  rw [sure_ok (by decide +kernel), Obol.subR_eq] at h
  have e : (((Obol.subQ 0 ((223588670687113535 : Int).toNat, (82055451961885530 : Int).toNat).1 : Nat)) : Int) = 64641705600650946 := by decide +kernel
  rw [e] at h
  exact h
theorem upAdd0 (w : World) : Calls Tryd.prog 14 #[edV 223588670687113535 82055451961885530, edV 64641705600650946 82055451961885530] w fun e w' => e = .returned (edV 0 1) ∧ Below w.heap.size w w' := by
  have h := eAdd 223588670687113535 82055451961885530 64641705600650946 82055451961885530 (by omega) (by omega) (by omega) (by omega) w
  rw [sure_ok (by decide +kernel), sure_ok (by decide +kernel), ← Obol.sumQ_eq] at h
  have e : Obol.sumQ ((223588670687113535 : Int).toNat, (82055451961885530 : Int).toNat) ((64641705600650946 : Int).toNat, (82055451961885530 : Int).toNat) = (0, 1) := of_decide_eq_true (by decide +kernel)
  rw [e] at h
  exact h
theorem upAdd1 (w : World) : Calls Tryd.prog 14 #[edV 223588670687113535 82055451961885530, edV 223588670687113535 82055451961885530] w fun e w' => e = .returned (edV 215313104986860010 182547805408397888) ∧ Below w.heap.size w w' := by
  have h := eAdd 223588670687113535 82055451961885530 223588670687113535 82055451961885530 (by omega) (by omega) (by omega) (by omega) w
  rw [sure_ok (by decide +kernel), ← Obol.sumQ_eq] at h
  have e : Obol.sumQ ((223588670687113535 : Int).toNat, (82055451961885530 : Int).toNat) ((223588670687113535 : Int).toNat, (82055451961885530 : Int).toNat) = (215313104986860010, 182547805408397888) := of_decide_eq_true (by decide +kernel)
  rw [e] at h
  exact h

/-! what a region that draws holds on to: a block of two cells -/
theorem held2 {w w1 : World} {b : Nat} {v0 v1 : Value} {t : TypeId} (h : Row w1 b #[v0, v1] t) (hb : Below w.heap.size w w1) :
    w1.cell? ⟨b, 0, none⟩ = some v0 ∧ w1.cell? ⟨b, 1, none⟩ = some v1 ∧ Row w1 b #[v0, v1] t ∧ Below w.heap.size w w1 := ⟨h.cell 0 rfl, h.cell 1 rfl, h, hb⟩
theorem held2_drew {w w1 : World} {b : Nat} {v0 v1 : Value} {t : TypeId} (h : Row w1 b #[v0, v1] t) (hb : Below w.heap.size w w1) :
    w1.drew.cell? ⟨b, 0, none⟩ = some v0 ∧ w1.drew.cell? ⟨b, 1, none⟩ = some v1 ∧ Row w1.drew b #[v0, v1] t ∧ Below w.heap.size w w1.drew := held2 h.drew (bDrew hb)
theorem held2_next {w w1 w2 : World} {b : Nat} {v0 v1 : Value} {t : TypeId} (h : w1.cell? ⟨b, 0, none⟩ = some v0 ∧ w1.cell? ⟨b, 1, none⟩ = some v1 ∧ Row w1 b #[v0, v1] t ∧ Below w.heap.size w w1) (hb : Below w1.heap.size w1 w2) :
    w2.cell? ⟨b, 0, none⟩ = some v0 ∧ w2.cell? ⟨b, 1, none⟩ = some v1 ∧ Row w2 b #[v0, v1] t ∧ Below w.heap.size w w2 := held2 (h.2.2.1.below hb h.2.2.1.lt) (bThen h.2.2.2 hb h.2.2.2.size)

set_option maxRecDepth 4000 in
set_option maxHeartbeats 1000000 in
theorem up7 (w : World) : Calls Tryd.prog 13 #[] w fun e w' => e = .returned (.bool true) ∧ Below w.heap.size w w' := by
  go_enter Tryd.func13, Tryd.ntmps13
  go_wp2_with fail
  refine (eGen _).mono ?_
  rintro e w1 ⟨rfl, hb1⟩
  go_wp2_with fail
  have Rb := Row.new w1 #[.int .u64 223588670687113535, .int .u64 82055451961885530] 38
  have hb2 : Below w.heap.size w (w1.alloc (.cells #[.int .u64 223588670687113535, .int .u64 82055451961885530] 38)) := hb1.alloc hb1.size _
  generalize w1.heap.size = b at *
  generalize w1.alloc (.cells #[.int .u64 223588670687113535, .int .u64 82055451961885530] 38) = w2 at *
  clear hb1
  go_region_held3 (fun w' => w'.cell? ⟨b, 0, none⟩ = some (.int .u64 223588670687113535) ∧ w'.cell? ⟨b, 1, none⟩ = some (.int .u64 82055451961885530) ∧ Row w' b #[.int .u64 223588670687113535, .int .u64 82055451961885530] 38 ∧ Below w.heap.size w w')
    (first | exact held2_drew Rb hb2 | exact held2_next ‹_› ‹_›)
    (first
      | (go_at_call 27; refine (upIs _).mono ?_; rintro e w3 ⟨rfl, hb3⟩)
      | (go_at_call 15; refine (upMul _).mono ?_; rintro e w3 ⟨rfl, hb3⟩)
      | (go_at_call 28; refine (upNeg _).mono ?_; rintro e w3 ⟨rfl, hb3⟩)
      | (go_at_call 18; refine (zero7 _).mono ?_; rintro e w3 ⟨rfl, hb3⟩)
      | (go_at_call_of 14 (edV 64641705600650946 82055451961885530); refine (upAdd0 _).mono ?_; rintro e w3 ⟨rfl, hb3⟩)
      | (go_at_call 14; refine (upAdd1 _).mono ?_; rintro e w3 ⟨rfl, hb3⟩))
  all_goals
    go_wp2
    go_ret
    rename_i h
    exact ⟨rfl, h.2.2.2⟩

end Go.Proofs.YtcdfpceagobicaaDoor
