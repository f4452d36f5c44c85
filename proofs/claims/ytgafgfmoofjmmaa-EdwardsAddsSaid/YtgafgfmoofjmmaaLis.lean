import Derived.Test.YtgafgfmoofjmmaaLmuls
/- The walk of the law EdwardsIs. -/
namespace Go.Proofs.Ytgafgfmoofjmmaa
open Go.RowKit

theorem walkIs (X Y : Int) (hX : 0 ≤ X) (hY : 0 ≤ Y) (w : World) :
    Calls Try.prog 5 #[edV X Y] w fun e w' => e = .returned (.bool true) ∧ Below w.heap.size w w' := by
  have h1 := Lib.hid (fun w => eIs X Y hX hY w)
  have h2 := Lib.hid (fun w => r7Is X Y hX hY w)
  have h3 := Lib.hid (fun w => eIn X Y hX hY w)
  have h4 := Lib.hid (fun w => r7In X Y hX hY w)
  generalize Obol.isN (X.toNat, Y.toNat) = b1 at h1 h2
  generalize inN (X.toNat, Y.toNat) = b2 at h3 h4
  go_enter Try.func5, Try.ntmps5
  go_wp2_with fail
  refine (up7 _).mono ?_
  rintro e w1 ⟨rfl, hb1⟩
  have Rb := (Row.new w #[.int .u64 X, .int .u64 Y] 24).below hb1 (by simp)
  have hb2 : Below w.heap.size w w1 := bThen (bAlloc (Below.refl _ _) _) hb1 (by simp)
  clear hb1
  go_wp2_with fail
  go_region_held3 (fun w' => w'.cell? ⟨w.heap.size, 0, none⟩ = some (.int .u64 X) ∧ w'.cell? ⟨w.heap.size, 1, none⟩ = some (.int .u64 Y) ∧ Row w' w.heap.size #[.int .u64 X, .int .u64 Y] 24 ∧ Below w.heap.size w w')
    (first | exact held2_drew Rb hb2 | exact held2_next ‹_› ‹_›)
    (first
      | (go_at_call 27; refine (h1.out _).mono ?_; rintro e w3 ⟨rfl, hb3⟩)
      | (go_at_call 23; refine (h2.out _).mono ?_; rintro e w3 ⟨rfl, hb3⟩)
      | (go_at_call 28; refine (h3.out _).mono ?_; rintro e w3 ⟨rfl, hb3⟩)
      | (go_at_call 29; refine (h4.out _).mono ?_; rintro e w3 ⟨rfl, hb3⟩))
  all_goals
    go_wp2
    go_ret
    rename_i h
    exact ⟨rfl, h.2.2.2⟩

end Go.Proofs.Ytgafgfmoofjmmaa
