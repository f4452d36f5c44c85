import Derived.Test.YtiffendfojhapaaDoorZWup9
set_option linter.unusedVariables false
set_option linter.unusedSimpArgs false
/- The walk of the law SchnorrPoints. -/
namespace Go.Proofs.YtiffendfojhapaaDoor
open Go.RowKit

set_option maxRecDepth 8000 in
set_option maxHeartbeats 4000000 in
theorem walkPoints (w : World) (hG : RowsAt w) (k : Int) (k0 : 0 ≤ k) (k1 : k ≤ 18446744073709551615) :
    Calls Tryd.prog 5 #[.int .u64 k] w fun e w' => e = .returned (.bool true) ∧ Below w.heap.size w w' := by
  have hU := Lib.hid (up9 w hG)
  by_cases hk : 1 ≤ k ∧ k < 72057593894066549
  · have cP := fun w => sPointY k hk.1 hk.2 w
    have cT := fun w => rTimesG k k0 k1 w
    have hK := Lib.hid hk
    obtain ⟨px, py, -, -, -, -, hv, -⟩ := coordsN (Obol.Pnt.smul k.toNat Obol.G)
    rw [hv] at cP cT
    replace cP := Lib.hid cP
    replace cT := Lib.hid cT
    clear hv hk
    go_enter Tryd.func5, Tryd.ntmps5
    go_wp2_with fail
    refine (hU.out).mono ?_
    rintro e w1 ⟨rfl, hb1⟩
    have H1 := Lib.hid (HR.next (HR.refl w) hb1)
    clear hb1
    go_wp2_with fail
    refine (cP.out _).mono ?_
    rintro e w2 ⟨rfl, hb2⟩
    have H2 := Lib.hid ((H1.out.next hb2).new #[.int .u64 px, .int .u64 py] 37)
    clear hb2 H1
    go_wp2_with fail
    refine (lKeyY k hK.out.1 hK.out.2 _).mono ?_
    rintro e w3 ⟨rfl, rfl⟩
    generalize w2.alloc (.cells #[.int .u64 px, .int .u64 py] 37) = w3 at H2 ⊢
    generalize w2.heap.size = b at H2 ⊢
    go_wp2_with fail
    refine wp_region_noPanic ?_
    refine wp_region_held_drew (S := fun wq => wq.cell? ⟨b, 0, none⟩ = some (.int .u64 px) ∧ wq.cell? ⟨b, 1, none⟩ = some (.int .u64 py) ∧ HR w wq [(b, #[.int .u64 px, .int .u64 py], 37)]) (by kernel_rfl) ?_ (fun hHeld => ?_)
    · have hq0 := HR.drew H2.out
      exact ⟨HR.cell hq0 (b := b) (cs := #[.int .u64 px, .int .u64 py]) (t := 37) (by simp) 0 rfl, HR.cell hq0 (b := b) (cs := #[.int .u64 px, .int .u64 py]) (t := 37) (by simp) 1 rfl, hq0⟩
    refine takeH 0 (fun _ _ _ _ _ h => h) (by kernel_rfl) hHeld rfl (by kernel_rfl) (by rfl) (v := ?_) ?_ ?_
    rotate_left
    ((intro wz hz; (try dsimp only at hz); go_simp) <;> with_reducible rfl)
    try simp only [Act.put, List.setIfInBounds_toArray, List.set_cons_zero, List.set_cons_succ]
    refine takeH 1 (fun _ _ _ _ _ h => h) (by kernel_rfl) hHeld rfl (by kernel_rfl) (by rfl) (v := ?_) ?_ ?_
    rotate_left
    ((intro wz hz; (try dsimp only at hz); go_simp) <;> with_reducible rfl)
    try simp only [Act.put, List.setIfInBounds_toArray, List.set_cons_zero, List.set_cons_succ]
    refine takeH 2 (fun _ _ _ _ _ h => h) (by kernel_rfl) hHeld rfl (by kernel_rfl) (by rfl) (v := ?_) ?_ ?_
    rotate_left
    ((intro wz hz; (try dsimp only at hz); go_simp) <;> with_reducible rfl)
    try simp only [Act.put, List.setIfInBounds_toArray, List.set_cons_zero, List.set_cons_succ]
    refine takeH 3 (fun _ _ _ _ _ h => h) (by kernel_rfl) hHeld rfl (by kernel_rfl) (by rfl) (v := ?_) ?_ ?_
    rotate_left
    ((intro wz hz; (try dsimp only at hz); go_simp) <;> with_reducible rfl)
    try simp only [Act.put, List.setIfInBounds_toArray, List.set_cons_zero, List.set_cons_succ]
    refine takeH 4 (fun _ _ _ _ _ h => h) (by kernel_rfl) hHeld rfl (by kernel_rfl) (by rfl) (v := ?_) ?_ ?_
    rotate_left
    ((intro wz hz; (try dsimp only at hz); go_simp) <;> with_reducible rfl)
    try simp only [Act.put, List.setIfInBounds_toArray, List.set_cons_zero, List.set_cons_succ]
    refine takeH 5 (fun _ _ _ _ _ h => h) (by kernel_rfl) hHeld rfl (by kernel_rfl) (by rfl) (v := ?_) ?_ ?_
    rotate_left
    ((intro wz hz; (try dsimp only at hz); go_simp) <;> with_reducible rfl)
    try simp only [Act.put, List.setIfInBounds_toArray, List.set_cons_zero, List.set_cons_succ]
    refine takeH 6 (fun _ _ _ _ _ h => h) (by kernel_rfl) hHeld rfl (by kernel_rfl) (by rfl) (v := ?_) ?_ ?_
    rotate_left
    ((intro wz hz; (try dsimp only at hz); go_simp) <;> with_reducible rfl)
    try simp only [Act.put, List.setIfInBounds_toArray, List.set_cons_zero, List.set_cons_succ]
    refine takeH 8 (fun _ _ _ _ _ h => h) (by kernel_rfl) hHeld rfl (by kernel_rfl) (by rfl) (v := ?_) ?_ ?_
    rotate_left
    ((intro wz hz; (try dsimp only at hz); go_simp) <;> with_reducible rfl)
    try simp only [Act.put, List.setIfInBounds_toArray, List.set_cons_zero, List.set_cons_succ]
    refine stepH 7 (by kernel_rfl) rfl (by rfl) (fun K hK => ?_)
    go_simp
    refine (r7Gen _).mono ?_
    rintro e wc1 ⟨rfl, hbc1⟩
    have hrc1 := HR.next hHeld.2.2 hbc1
    refine hK.out _ _ ?_ (fun hHeld => ?_)
    · exact ⟨HR.cell hrc1 (b := b) (cs := #[.int .u64 px, .int .u64 py]) (t := 37) (by simp) 0 rfl, HR.cell hrc1 (b := b) (cs := #[.int .u64 px, .int .u64 py]) (t := 37) (by simp) 1 rfl, hrc1⟩
    clear hK K
    try simp only [Act.put, List.setIfInBounds_toArray, List.set_cons_zero, List.set_cons_succ]
    refine stepH 9 (by kernel_rfl) rfl (by rfl) (fun K hK => ?_)
    go_simp
    refine (cT.out _).mono ?_
    rintro e wc2 ⟨rfl, hbc2⟩
    have hrc2 := HR.next hHeld.2.2 hbc2
    refine hK.out _ _ ?_ (fun hHeld => ?_)
    · exact ⟨HR.cell hrc2 (b := b) (cs := #[.int .u64 px, .int .u64 py]) (t := 37) (by simp) 0 rfl, HR.cell hrc2 (b := b) (cs := #[.int .u64 px, .int .u64 py]) (t := 37) (by simp) 1 rfl, hrc2⟩
    clear hK K
    try simp only [Act.put, List.setIfInBounds_toArray, List.set_cons_zero, List.set_cons_succ]
    refine takeH 10 (fun _ _ _ _ _ h => h) (by kernel_rfl) hHeld rfl (by kernel_rfl) (by rfl) (v := ?_) ?_ ?_
    rotate_left
    ((intro wz hz; (try dsimp only at hz); go_simp) <;> with_reducible rfl)
    try simp only [Act.put, List.setIfInBounds_toArray, List.set_cons_zero, List.set_cons_succ]
    refine takeH 11 (fun _ _ _ _ _ h => h) (by kernel_rfl) hHeld rfl (by kernel_rfl) (by rfl) (v := ?_) ?_ ?_
    rotate_left
    ((intro wz hz; (try dsimp only at hz); go_simp) <;> with_reducible rfl)
    try simp only [Act.put, List.setIfInBounds_toArray, List.set_cons_zero, List.set_cons_succ]
    refine takeH 12 (fun _ _ _ _ _ h => h) (by kernel_rfl) hHeld rfl (by kernel_rfl) (by rfl) (v := ?_) ?_ ?_
    rotate_left
    ((intro wz hz; (try dsimp only at hz); go_simp) <;> with_reducible rfl)
    try simp only [Act.put, List.setIfInBounds_toArray, List.set_cons_zero, List.set_cons_succ]
    refine wpAnyH_done (by kernel_rfl) (NoPanic.normal ?_) _
    have HB := Lib.hid (hHeld.2.2.2)
    clear hHeld
    go_wp2_with fail
    go_ret
    exact ⟨rfl, HB.out⟩
  · have hK := Lib.hid hk
    have hE := fun W => eqErrC W 1 1
    clear hk
    go_enter Tryd.func5, Tryd.ntmps5
    go_wp2_with fail
    refine (hU.out).mono ?_
    rintro e w1 ⟨rfl, hb1⟩
    have H1 := Lib.hid (HR.next (HR.refl w) hb1)
    clear hb1
    go_wp2_with fail
    refine (sPointN k k0 hK.out _).mono ?_
    rintro e w2 ⟨rfl, hb2⟩
    have H2 := Lib.hid ((H1.out.next hb2).alloc (.cells #[.int .u64 0, .int .u64 0] 37))
    clear hb2 H1
    go_wp2_with fail
    refine (lKeyN k k0 hK.out _).mono ?_
    rintro e w3 ⟨rfl, rfl⟩
    go_wp2_with fail
    go_ret
    exact ⟨rfl, H2.out.2⟩

end Go.Proofs.YtiffendfojhapaaDoor
