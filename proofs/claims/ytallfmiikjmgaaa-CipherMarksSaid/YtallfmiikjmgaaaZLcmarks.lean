import Derived.Test.YtallfmiikjmgaaaZL6base
set_option linter.unusedVariables false
set_option linter.unusedSimpArgs false
/- The walk of the law CipherMarks. -/
namespace Go.Proofs.Ytallfmiikjmgaaa
open Go.RowKit

set_option maxRecDepth 8000 in
set_option maxHeartbeats 4000000 in
theorem walkCMarks (w : World) (a0 : Option Addr) (l0 k0 : Nat) (L0 : List Nat) (x0 : B8 l0 L0) (hl0 : l0 ≤ k0) (hc0 : k0 ≤ 9223372036854775807) (hn0 : a0 = none → l0 = 0 ∧ k0 = 0) (hb0 : 0 < l0 → ∃ b o, a0 = some ⟨b, o, none⟩ ∧ BL w b o L0) (a1 : Option Addr) (l1 k1 : Nat) (L1 : List Nat) (x1 : B8 l1 L1) (hl1 : l1 ≤ k1) (hc1 : k1 ≤ 9223372036854775807) (hn1 : a1 = none → l1 = 0 ∧ k1 = 0) (hb1 : 0 < l1 → ∃ b o, a1 = some ⟨b, o, none⟩ ∧ BL w b o L1) :
    Calls Try.prog 3 #[.slice a0 l0 k0, .slice a1 l1 k1] w fun e w' => e = .returned (.bool true) ∧ Below w.heap.size w w' := by
  have S0 := Lib.hid (sl6 x0 hl0 hc0 hn0 hb0)
  have S1 := Lib.hid (sl6 x1 hl1 hc1 hn1 hb1)
  have cU := Lib.hid (up6 w)
  clear hn0 hb0 hn1 hb1
  go_enter Try.func3, Try.ntmps3
  go_wp2_with fail
  refine cU.out.mono ?_
  rintro e w1 ⟨rfl, hb1⟩
  have B1 := Lib.hid hb1
  clear hb1 cU
  by_cases h3 : 3000 < l1
  · have h3i : (3000 : Int) < (l1 : Int) := by omega
    go_wp2_with fail
    go_ret
    exact ⟨rfl, B1.out⟩
  · have h3i : ¬ (3000 : Int) < (l1 : Int) := by omega
    by_cases hk : l0 = 32
    · subst hk
      obtain ⟨bk, ok, rfl, hbk, hBK, hck⟩ := S0.out.key x0 (by omega)
      have cM := Lib.hid (qMark bk ok k0 L0 x0 hck a1 l1 k1 L1 x1 (by omega) w1 (Nat.lt_of_lt_of_le hbk B1.out.size) (hBK.below B1.out hbk) (S1.out.next B1.out))
      have cR := Lib.hid (fun W (hw : Below w.heap.size w W) => rMark bk ok k0 L0 x0 a1 l1 k1 L1 x1 (by omega) W (Nat.lt_of_lt_of_le hbk hw.size) (hBK.below hw hbk) (S1.out.next hw))
      have hD : Hid ((Obol.markL L0 L1).length = 16) := Lib.hid (Obol.markL_len _ _)
      generalize Obol.markL L0 L1 = D at cM cR hD
      clear hbk hBK
      go_wp2_with fail
      refine cM.out.mono ?_
      rintro e w2 ⟨g, rfl, hR2, hg2, hb2⟩
      have B2 := Lib.hid (bThen B1.out hb2 B1.out.size)
      have hgl := hR2.lt
      have bl := Lib.hid hR2.bl
      clear hR2 hg2 hb2 B1 cM
      go_wp2_with fail
      refine wp_region_noPanic ?_
      refine wp_region_held_drew (S := fun wq => (convert 22 9 (.slice (some ⟨g, 0, none⟩) 16 16)).run Try.prog wq = .ok (.string (strB D)) wq ∧ BL wq g 0 D ∧ g < wq.heap.size ∧ Below w.heap.size w wq) (by kernel_rfl) ?_ (fun hHeld => ?_)
      · exact ⟨conv8 (fun i hi => bl.out i hi) hD.out, fun i hi => bl.out i hi, hgl, bDrew B2.out⟩
      refine takeH 0 (fun _ _ _ _ _ h => h) (by kernel_rfl) hHeld rfl (by kernel_rfl) (by rfl) (v := ?_) ?_ ?_
      rotate_left
      ((intro wz hz; (try dsimp only at hz); go_simp) <;> with_reducible rfl)
      try simp only [Act.put, List.setIfInBounds_toArray, List.set_cons_zero, List.set_cons_succ]
      refine takeH 1 (fun _ _ _ _ _ h => h) (by kernel_rfl) hHeld rfl (by kernel_rfl) (by rfl) (v := ?_) ?_ ?_
      rotate_left
      ((intro wz hz; (try dsimp only at hz); go_simp) <;> with_reducible rfl)
      try simp only [Act.put, List.setIfInBounds_toArray, List.set_cons_zero, List.set_cons_succ]
      refine takeH 2 (fun _ _ _ _ _ h => h) (by kernel_rfl) hHeld rfl (by kernel_rfl) (by rfl) (v := ?_) ?_ ?_
      rotate_left
      ((intro wz hz; (try dsimp only at hz); go_simp) <;> with_reducible rfl)
      try simp only [Act.put, List.setIfInBounds_toArray, List.set_cons_zero, List.set_cons_succ]
      refine takeH 3 (fun _ _ _ _ _ h => h) (by kernel_rfl) hHeld rfl (by kernel_rfl) (by rfl) (v := ?_) ?_ ?_
      rotate_left
      ((intro wz hz; (try dsimp only at hz); go_simp) <;> with_reducible rfl)
      try simp only [Act.put, List.setIfInBounds_toArray, List.set_cons_zero, List.set_cons_succ]
      refine takeH 4 (fun _ _ _ _ _ h => h) (by kernel_rfl) hHeld rfl (by kernel_rfl) (by rfl) (v := ?_) ?_ ?_
      rotate_left
      ((intro wz hz; (try dsimp only at hz); go_simp) <;> with_reducible rfl)
      try simp only [Act.put, List.setIfInBounds_toArray, List.set_cons_zero, List.set_cons_succ]
      refine takeH 5 (fun _ _ _ _ _ h => h) (by kernel_rfl) hHeld rfl (by kernel_rfl) (by rfl) (v := ?_) ?_ ?_
      rotate_left
      ((intro wz hz; (try dsimp only at hz); go_simp) <;> with_reducible rfl)
      try simp only [Act.put, List.setIfInBounds_toArray, List.set_cons_zero, List.set_cons_succ]
      refine takeH 6 (fun _ _ _ _ _ h => h) (by kernel_rfl) hHeld rfl (by kernel_rfl) (by rfl) (v := ?_) ?_ ?_
      rotate_left
      ((intro wz hz; (try dsimp only at hz); go_simp) <;> with_reducible rfl)
      try simp only [Act.put, List.setIfInBounds_toArray, List.set_cons_zero, List.set_cons_succ]
      refine takeH 7 (fun _ _ _ _ _ h => h) (by kernel_rfl) hHeld rfl (by kernel_rfl) (by rfl) (v := ?_) ?_ ?_
      rotate_left
      ((intro wz hz; (try dsimp only at hz); go_simp) <;> with_reducible rfl)
      try simp only [Act.put, List.setIfInBounds_toArray, List.set_cons_zero, List.set_cons_succ]
      refine takeH 8 (fun _ _ _ _ _ h => h) (by kernel_rfl) hHeld rfl (by kernel_rfl) (by rfl) (v := ?_) ?_ ?_
      rotate_left
      ((intro wz hz; (try dsimp only at hz); go_simp) <;> with_reducible rfl)
      try simp only [Act.put, List.setIfInBounds_toArray, List.set_cons_zero, List.set_cons_succ]
      refine takeH 9 (fun _ _ _ _ _ h => h) (by kernel_rfl) hHeld rfl (by kernel_rfl) (by rfl) (v := ?_) ?_ ?_
      rotate_left
      ((intro wz hz; (try dsimp only at hz); go_simp) <;> with_reducible rfl)
      try simp only [Act.put, List.setIfInBounds_toArray, List.set_cons_zero, List.set_cons_succ]
      refine stepH 10 (by kernel_rfl) rfl (by rfl) (fun K hK => ?_)
      go_simp
      refine (cR.out _ hHeld.2.2.2).mono ?_
      rintro e w3 ⟨g3, rfl, hR3, hg3, hb3⟩
      have hcv := conv8 (cap := 16) (n := 16) hR3.bl hD.out
      refine hK.out _ _ ?_ (fun hHeld => ?_)
      · exact ⟨conv8 (hHeld.2.1.below hb3 hHeld.2.2.1) hD.out, hHeld.2.1.below hb3 hHeld.2.2.1, Nat.lt_of_lt_of_le hHeld.2.2.1 hb3.size, bThen hHeld.2.2.2 hb3 hHeld.2.2.2.size⟩
      clear hK K
      try simp only [Act.put, List.setIfInBounds_toArray, List.set_cons_zero, List.set_cons_succ]
      refine stepH 11 (by kernel_rfl) rfl (by rfl) (fun K hK => ?_)
      go_simp
      refine hK.out _ _ ?_ (fun hHeld => ?_)
      · exact hHeld
      clear hK K
      try simp only [Act.put, List.setIfInBounds_toArray, List.set_cons_zero, List.set_cons_succ]
      refine takeH 12 (fun _ _ _ _ _ h => h) (by kernel_rfl) hHeld rfl (by kernel_rfl) (by rfl) (v := ?_) ?_ ?_
      rotate_left
      ((intro wz hz; (try dsimp only at hz); go_simp) <;> with_reducible rfl)
      try simp only [Act.put, List.setIfInBounds_toArray, List.set_cons_zero, List.set_cons_succ]
      refine takeH 13 (fun _ _ _ _ _ h => h) (by kernel_rfl) hHeld rfl (by kernel_rfl) (by rfl) (v := ?_) ?_ ?_
      rotate_left
      ((intro wz hz; (try dsimp only at hz); go_simp) <;> with_reducible rfl)
      try simp only [Act.put, List.setIfInBounds_toArray, List.set_cons_zero, List.set_cons_succ]
      refine takeH 14 (fun _ _ _ _ _ h => h) (by kernel_rfl) hHeld rfl (by kernel_rfl) (by rfl) (v := ?_) ?_ ?_
      rotate_left
      ((intro wz hz; (try dsimp only at hz); go_simp) <;> with_reducible rfl)
      try simp only [Act.put, List.setIfInBounds_toArray, List.set_cons_zero, List.set_cons_succ]
      refine wpAnyH_done (by kernel_rfl) (NoPanic.normal ?_) _
      go_wp2
      go_ret
      exact ⟨rfl, hHeld.2.2.2⟩
    · have hki : ((l0 : Int) != 32) = true := by simp; omega
      have cM := Lib.hid (qMarkN a0 a1 l0 l1 k0 k1 hk w1)
      have hE := fun W => eqErrC W 1 1
      replace hk := Lib.hid hk
      go_wp2_with fail
      refine cM.out.mono ?_
      rintro e w2 ⟨rfl, rfl⟩
      go_wp2_with fail
      go_ret
      exact ⟨rfl, B1.out⟩

end Go.Proofs.Ytallfmiikjmgaaa
