import Derived.Test.YtgafgfmoofjmmaaWin7
/- The walks of the laws EdwardsMuls, EdwardsIs, EdwardsAdds. -/
namespace Go.Proofs.Ytgafgfmoofjmmaa
open Go.RowKit

theorem ints2 (p : Nat × Nat) : ∃ a b : Int, 0 ≤ a ∧ 0 ≤ b ∧ (p.1 : Int) = a ∧ (p.2 : Int) = b ∧ p = (a.toNat, b.toNat) :=
  ⟨p.1, p.2, by omega, by omega, rfl, rfl, by simp⟩

theorem walkMuls (X Y k : Int) (hX : 0 ≤ X) (hY : 0 ≤ Y) (hk : 0 ≤ k) (hk1 : k ≤ 18446744073709551615) (w : World) :
    Calls Try.prog 4 #[edV X Y, .int .u64 k] w fun e w' => e = .returned (.bool true) ∧ Below w.heap.size w w' := by
  have hM := Lib.hid (fun w => eMulK X Y k hX hY hk hk1 w)
  have hS := Lib.hid (fun w => r7Sure X Y hX hY w)
  have ht := times_is (X.toNat, Y.toNat) k.toNat (by omega)
  obtain ⟨sx, sy, s0, s1, e1, e2, e3⟩ := ints2 (Obol.sureN (X.toNat, Y.toNat))
  obtain ⟨mx, my, m0, m1, e4, e5, e6⟩ := ints2 (Obol.smulN (X.toNat, Y.toNat) k.toNat)
  have hT := Lib.hid (fun w => r7Times sx sy k s0 s1 hk hk1 w)
  rw [e3] at ht
  rw [ht] at hT
  rw [e1, e2] at hS
  rw [e4, e5] at hM hT
  clear ht e1 e2 e3 e4 e5 e6
  go_enter Try.func4, Try.ntmps4
  go_wp2_with fail
  refine (up7 _).mono ?_
  rintro e w1 ⟨rfl, hb1⟩
  have Rb := (Row.new w #[.int .u64 X, .int .u64 Y] 24).below hb1 (by simp)
  have hb2 : Below w.heap.size w w1 := bThen (bAlloc (Below.refl _ _) _) hb1 (by simp)
  clear hb1
  go_wp2_with fail
  go_region_held3 (fun w' => w'.cell? ⟨w.heap.size, 0, none⟩ = some (.int .u64 X) ∧ w'.cell? ⟨w.heap.size, 1, none⟩ = some (.int .u64 Y) ∧ Row w' w.heap.size #[.int .u64 X, .int .u64 Y] 24 ∧ Below w.heap.size w w')
    (first | exact held2_drew Rb hb2 | exact held2_next ‹_› ‹_›)
    (first
      | (go_at_call 25; refine (hM.out _).mono ?_; rintro e w3 ⟨rfl, hb3⟩)
      | (go_at_call 19; refine (hS.out _).mono ?_; rintro e w3 ⟨rfl, hb3⟩)
      | (go_at_call 26; refine (hT.out _).mono ?_; rintro e w3 ⟨rfl, hb3⟩))
  all_goals
    go_wp2
    go_ret
    rename_i h
    exact ⟨rfl, h.2.2.2⟩

end Go.Proofs.Ytgafgfmoofjmmaa
