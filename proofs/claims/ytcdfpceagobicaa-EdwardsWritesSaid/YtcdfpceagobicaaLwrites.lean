import Derived.Test.YtcdfpceagobicaaWstr
/- The walk of the law EdwardsWrites. -/
namespace Go.Proofs.Ytcdfpceagobicaa
open Go.RowKit

/-- What the region holds on to. -/
abbrev SWr (w w1 : World) (a k g cap : Nat) (X Y : Int) (L : List Nat) : Prop :=
  w1.cell? ⟨a, 0, none⟩ = some (.int .u64 X) ∧ w1.cell? ⟨a, 1, none⟩ = some (.int .u64 Y) ∧ w1.cell? ⟨k, 0, none⟩ = some (.int .u64 X) ∧ w1.cell? ⟨k, 1, none⟩ = some (.int .u64 Y) ∧
    (convert 22 9 (.slice (some ⟨g, 0, none⟩) 8 cap)).run Try.prog w1 = .ok (.string (strB L)) w1 ∧
    Row w1 a #[.int .u64 X, .int .u64 Y] 26 ∧ Row w1 k #[.int .u64 X, .int .u64 Y] 26 ∧ BL w1 g 0 L ∧ Below w.heap.size w w1
theorem swr {w w1 : World} {a k g cap : Nat} {X Y : Int} {L : List Nat} (hL : L.length = 8) (ha : Row w1 a #[.int .u64 X, .int .u64 Y] 26) (hk : Row w1 k #[.int .u64 X, .int .u64 Y] 26) (hg : BL w1 g 0 L) (hb : Below w.heap.size w w1) :
    SWr w w1 a k g cap X Y L := ⟨ha.cell 0 rfl, ha.cell 1 rfl, hk.cell 0 rfl, hk.cell 1 rfl, conv8 hg hL, ha, hk, hg, hb⟩
theorem swr_drew {w w1 : World} {a k g cap : Nat} {X Y : Int} {L : List Nat} (hL : L.length = 8) (h : SWr w w1 a k g cap X Y L) : SWr w w1.drew a k g cap X Y L := by
  obtain ⟨_, _, _, _, _, ha, hk, hg, hb⟩ := h
  exact swr hL ha.drew hk.drew (fun i hi => hg i hi) (bDrew hb)
theorem swr_next {w w1 w2 : World} {a k g cap : Nat} {X Y : Int} {L : List Nat} (hL : L.length = 8) (h : SWr w w1 a k g cap X Y L) (hw : Below w1.heap.size w1 w2) : SWr w w2 a k g cap X Y L := by
  obtain ⟨_, _, _, _, _, ha, hk, hg, hb⟩ := h
  exact swr hL (ha.below hw ha.lt) (hk.below hw hk.lt) (hg.below hw (hg.lt (by omega))) (bThen hb hw hb.size)

set_option maxRecDepth 4000 in
set_option maxHeartbeats 2000000 in
theorem walkWrites (X Y : Int) (hX : 0 ≤ X) (hY : 0 ≤ Y) (w : World) :
    Calls Try.prog 4 #[edV X Y] w fun e w' => e = .returned (.bool true) ∧ Below w.heap.size w w' := by
  have cI := fun w => r7Is X Y hX hY w
  have hE := fun W => eqErr W 1 1
  cases hn : Obol.isN (X.toNat, Y.toNat)
  · have cW := fun w => eWriteNo X Y hX hY hn w
    rw [hn] at cI
    replace cI := Lib.hid cI
    replace cW := Lib.hid cW
    clear hn
    go_enter Try.func4, Try.ntmps4
    go_wp2_with fail
    refine (up7 _).mono ?_
    rintro e w1 ⟨rfl, hb1⟩
    have R := (Row.new w #[.int .u64 X, .int .u64 Y] 26).below hb1 (by simp)
    have B := bThen (bAlloc (Below.refl w.heap.size w) _) hb1 (by simp)
    have g0 := R.cell 0 rfl
    have g1 := R.cell 1 rfl
    clear hb1
    replace B := Lib.hid B
    replace R := Lib.hid R
    go_wp2_with fail
    refine (cW.out _).mono ?_
    rintro e w2 ⟨rfl, hb2⟩
    replace R := R.out.below hb2 R.out.lt
    replace B := Lib.hid (bThen B.out hb2 B.out.size)
    clear hb2 g0 g1
    have g0 := R.cell 0 rfl
    have g1 := R.cell 1 rfl
    go_wp2_with fail
    refine (cI.out _).mono ?_
    rintro e w3 ⟨rfl, hb3⟩
    replace B := Lib.hid (bThen B.out hb3 B.out.size)
    clear hb3 g0 g1 R
    go_wp2_with fail
    go_ret
    exact ⟨rfl, B.out⟩
  · have cW := fun w => eWrite X Y hX hY hn w
    rw [hn] at cI
    have hlt : X < 288230376287764481 ∧ Y < 288230376287764481 := by
      have hn := hn
      unfold Obol.isN at hn
      simp only [Bool.and_eq_true, decide_eq_true_eq] at hn
      have h1 := hn.1.1
      have h2 := hn.1.2
      rw [Obol.R_def] at h1 h2
      omega
    have cB := fun w => r7Bytes X Y hX (by omega) hY (by omega) w
    have hc64 : Obol.codeN (X.toNat, Y.toNat) < 18446744073709551616 := by unfold Obol.codeN; simp only; omega
    have hV : Hid (readV (Obol.num8 (Obol.be8 (Obol.codeN (X.toNat, Y.toNat)))) = .tuple #[edV X Y, .nilIface]) := Lib.hid (readV_code hX hY hn (Obol.num_be _ hc64))
    have hB8 := Lib.hid (B8.of (Obol.be_lt (Obol.codeN (X.toNat, Y.toNat))))
    have hL : Hid ((Obol.be8 (Obol.codeN (X.toNat, Y.toNat))).length = 8) := Lib.hid rfl
    generalize Obol.be8 (Obol.codeN (X.toNat, Y.toNat)) = L at cW cB hV hB8 hL
    have hB8' := Lib.hid (hL.out ▸ hB8.out : B8 8 L)
    replace cI := Lib.hid cI
    replace cW := Lib.hid cW
    replace cB := Lib.hid cB
    clear hn hlt hc64 hB8
    go_enter Try.func4, Try.ntmps4
    go_wp2_with fail
    refine (up7 _).mono ?_
    rintro e w1 ⟨rfl, hb1⟩
    have R := (Row.new w #[.int .u64 X, .int .u64 Y] 26).below hb1 (by simp)
    have B := bThen (bAlloc (Below.refl w.heap.size w) _) hb1 (by simp)
    have g0 := R.cell 0 rfl
    have g1 := R.cell 1 rfl
    clear hb1
    replace B := Lib.hid B
    replace R := Lib.hid R
    go_wp2_with fail
    refine (cW.out _).mono ?_
    rintro e w2 ⟨v, rfl, hO, hb2⟩
    obtain ⟨g, cap, cur, rfl, hg, -, -, -, -, -⟩ := hO.size (by rw [hL.out]; decide)
    have BLg := hO.bl
    rw [hL.out]
    have R2 := R.out.below hb2 R.out.lt
    have B2 := bThen B.out hb2 B.out.size
    clear hb2 g0 g1 R B hO
    have g0 := R2.cell 0 rfl
    have g1 := R2.cell 1 rfl
    replace BLg := Lib.hid BLg
    replace R2 := Lib.hid R2
    replace B2 := Lib.hid B2
    go_wp2_with fail
    refine (cI.out _).mono ?_
    rintro e w3 ⟨rfl, hb3⟩
    replace BLg := Lib.hid (BLg.out.below hb3 (BLg.out.lt (by rw [hL.out]; decide)))
    replace R2 := R2.out.below hb3 R2.out.lt
    replace B2 := Lib.hid (bThen B2.out hb3 B2.out.size)
    clear hb3 g0 g1
    have g0 := R2.cell 0 rfl
    have g1 := R2.cell 1 rfl
    replace R2 := Lib.hid R2
    go_wp2_with fail
    refine (eRead8F 0 cap g L hB8'.out _ hV.out _ BLg.out).mono ?_
    rintro e w4 ⟨rfl, hb4⟩
    replace BLg := BLg.out.below hb4 (BLg.out.lt (by rw [hL.out]; decide))
    replace R2 := R2.out.below hb4 R2.out.lt
    replace B2 := bThen B2.out hb4 B2.out.size
    clear hb4 g0 g1
    have g0 := R2.cell 0 rfl
    have g1 := R2.cell 1 rfl
    have ga : w.heap.size < w4.heap.size := R2.lt
    replace R2 := Lib.hid R2
    replace BLg := Lib.hid BLg
    replace B2 := Lib.hid B2
    go_wp2_with fail
    have R3 := Row.new w4 #[.int .u64 X, .int .u64 Y] 26
    have S0 := swr (cap := cap) hL.out (R2.out.alloc (.cells #[.int .u64 X, .int .u64 Y] 26)) R3 (BLg.out.below (bAlloc (Below.refl _ _) (.cells #[.int .u64 X, .int .u64 Y] 26)) (BLg.out.lt (by rw [hL.out]; decide))) (bAlloc B2.out (.cells #[.int .u64 X, .int .u64 Y] 26))
    generalize w4.alloc (.cells #[.int .u64 X, .int .u64 Y] 26) = w5 at S0 ⊢
    generalize w4.heap.size = k at S0 ⊢
    clear R2 BLg B2 g0 g1 ga
    clear R3
    refine wp_region_noPanic ?_
    refine wp_region_held_drew (S := fun w' => SWr w w' w.heap.size k g cap X Y L) (by kernel_rfl) ?_ (fun hHeld => ?_)
    · exact swr_drew hL.out S0
    refine takeH 0 (fun _ _ _ _ _ h => h) (by kernel_rfl) hHeld rfl (by kernel_rfl) (by rfl) (v := ?_) ?_ ?_
    rotate_left
    ((intro wz hz; (try dsimp only at hz); go_simp) <;> with_reducible rfl)
    try simp only [Act.put, List.setIfInBounds_toArray, List.set_cons_zero, List.set_cons_succ]
    refine takeH 1 (fun _ _ _ _ _ h => h) (by kernel_rfl) hHeld rfl (by kernel_rfl) (by rfl) (v := ?_) ?_ ?_
    rotate_left
    ((intro wz hz; (try dsimp only at hz); go_simp) <;> with_reducible rfl)
    try simp only [Act.put, List.setIfInBounds_toArray, List.set_cons_zero, List.set_cons_succ]
    refine takeH 2 (fun _ _ _ _ _ h => h) (by kernel_rfl) hHeld rfl (by kernel_rfl) (by rfl) (v := ?_) ?_ ?_
    rotate_left
    ((intro wz hz; (try dsimp only at hz); go_simp) <;> with_reducible rfl)
    try simp only [Act.put, List.setIfInBounds_toArray, List.set_cons_zero, List.set_cons_succ]
    refine takeH 3 (fun _ _ _ _ _ h => h) (by kernel_rfl) hHeld rfl (by kernel_rfl) (by rfl) (v := ?_) ?_ ?_
    rotate_left
    ((intro wz hz; (try dsimp only at hz); go_simp) <;> with_reducible rfl)
    try simp only [Act.put, List.setIfInBounds_toArray, List.set_cons_zero, List.set_cons_succ]
    refine takeH 4 (fun _ _ _ _ _ h => h) (by kernel_rfl) hHeld rfl (by kernel_rfl) (by rfl) (v := ?_) ?_ ?_
    rotate_left
    ((intro wz hz; (try dsimp only at hz); go_simp) <;> with_reducible rfl)
    try simp only [Act.put, List.setIfInBounds_toArray, List.set_cons_zero, List.set_cons_succ]
    refine takeH 5 (fun _ _ _ _ _ h => h) (by kernel_rfl) hHeld rfl (by kernel_rfl) (by rfl) (v := ?_) ?_ ?_
    rotate_left
    ((intro wz hz; (try dsimp only at hz); go_simp) <;> with_reducible rfl)
    try simp only [Act.put, List.setIfInBounds_toArray, List.set_cons_zero, List.set_cons_succ]
    refine takeH 6 (fun _ _ _ _ _ h => h) (by kernel_rfl) hHeld rfl (by kernel_rfl) (by rfl) (v := ?_) ?_ ?_
    rotate_left
    ((intro wz hz; (try dsimp only at hz); go_simp) <;> with_reducible rfl)
    try simp only [Act.put, List.setIfInBounds_toArray, List.set_cons_zero, List.set_cons_succ]
    refine takeH 7 (fun _ _ _ _ _ h => h) (by kernel_rfl) hHeld rfl (by kernel_rfl) (by rfl) (v := ?_) ?_ ?_
    rotate_left
    ((intro wz hz; (try dsimp only at hz); go_simp) <;> with_reducible rfl)
    try simp only [Act.put, List.setIfInBounds_toArray, List.set_cons_zero, List.set_cons_succ]
    refine takeH 8 (fun _ _ _ _ _ h => h) (by kernel_rfl) hHeld rfl (by kernel_rfl) (by rfl) (v := ?_) ?_ ?_
    rotate_left
    ((intro wz hz; (try dsimp only at hz); go_simp) <;> with_reducible rfl)
    try simp only [Act.put, List.setIfInBounds_toArray, List.set_cons_zero, List.set_cons_succ]
    refine stepH 9 (by kernel_rfl) rfl (by rfl) (fun K hK => ?_)
    go_simp
    refine (cB.out _).mono ?_
    rintro e w6 ⟨g6, rfl, hg6, R6, hb6⟩
    have hcv := conv8 (cap := 8) (n := 8) R6.bl hL.out
    refine hK.out _ _ ?_ (fun hHeld => ?_)
    · exact swr_next hL.out hHeld hb6
    clear hK K
    try simp only [Act.put, List.setIfInBounds_toArray, List.set_cons_zero, List.set_cons_succ]
    refine stepH 10 (by kernel_rfl) rfl (by rfl) (fun K hK => ?_)
    go_simp
    refine hK.out _ _ ?_ (fun hHeld => ?_)
    · exact hHeld
    clear hK K
    try simp only [Act.put, List.setIfInBounds_toArray, List.set_cons_zero, List.set_cons_succ]
    refine takeH 11 (fun _ _ _ _ _ h => h) (by kernel_rfl) hHeld rfl (by kernel_rfl) (by rfl) (v := ?_) ?_ ?_
    rotate_left
    ((intro wz hz; (try dsimp only at hz); go_simp) <;> with_reducible rfl)
    try simp only [Act.put, List.setIfInBounds_toArray, List.set_cons_zero, List.set_cons_succ]
    refine takeH 12 (fun _ _ _ _ _ h => h) (by kernel_rfl) hHeld rfl (by kernel_rfl) (by rfl) (v := ?_) ?_ ?_
    rotate_left
    ((intro wz hz; (try dsimp only at hz); go_simp) <;> with_reducible rfl)
    try simp only [Act.put, List.setIfInBounds_toArray, List.set_cons_zero, List.set_cons_succ]
    refine takeH 13 (fun _ _ _ _ _ h => h) (by kernel_rfl) hHeld rfl (by kernel_rfl) (by rfl) (v := ?_) ?_ ?_
    rotate_left
    ((intro wz hz; (try dsimp only at hz); go_simp) <;> with_reducible rfl)
    try simp only [Act.put, List.setIfInBounds_toArray, List.set_cons_zero, List.set_cons_succ]
    refine takeH 14 (fun _ _ _ _ _ h => h) (by kernel_rfl) hHeld rfl (by kernel_rfl) (by rfl) (v := ?_) ?_ ?_
    rotate_left
    ((intro wz hz; (try dsimp only at hz); go_simp) <;> with_reducible rfl)
    try simp only [Act.put, List.setIfInBounds_toArray, List.set_cons_zero, List.set_cons_succ]
    refine takeH 15 (fun _ _ _ _ _ h => h) (by kernel_rfl) hHeld rfl (by kernel_rfl) (by rfl) (v := ?_) ?_ ?_
    rotate_left
    ((intro wz hz; (try dsimp only at hz); go_simp) <;> with_reducible rfl)
    try simp only [Act.put, List.setIfInBounds_toArray, List.set_cons_zero, List.set_cons_succ]
    refine takeH 16 (fun _ _ _ _ _ h => h) (by kernel_rfl) hHeld rfl (by kernel_rfl) (by rfl) (v := ?_) ?_ ?_
    rotate_left
    ((intro wz hz; (try dsimp only at hz); go_simp) <;> with_reducible rfl)
    try simp only [Act.put, List.setIfInBounds_toArray, List.set_cons_zero, List.set_cons_succ]
    refine takeH 17 (fun _ _ _ _ _ h => h) (by kernel_rfl) hHeld rfl (by kernel_rfl) (by rfl) (v := ?_) ?_ ?_
    rotate_left
    ((intro wz hz; (try dsimp only at hz); go_simp) <;> with_reducible rfl)
    try simp only [Act.put, List.setIfInBounds_toArray, List.set_cons_zero, List.set_cons_succ]
    refine takeH 18 (fun _ _ _ _ _ h => h) (by kernel_rfl) hHeld rfl (by kernel_rfl) (by rfl) (v := ?_) ?_ ?_
    rotate_left
    ((intro wz hz; (try dsimp only at hz); go_simp) <;> with_reducible rfl)
    try simp only [Act.put, List.setIfInBounds_toArray, List.set_cons_zero, List.set_cons_succ]
    refine takeH 19 (fun _ _ _ _ _ h => h) (by kernel_rfl) hHeld rfl (by kernel_rfl) (by rfl) (v := ?_) ?_ ?_
    rotate_left
    ((intro wz hz; (try dsimp only at hz); go_simp) <;> with_reducible rfl)
    try simp only [Act.put, List.setIfInBounds_toArray, List.set_cons_zero, List.set_cons_succ]
    refine takeH 20 (fun _ _ _ _ _ h => h) (by kernel_rfl) hHeld rfl (by kernel_rfl) (by rfl) (v := ?_) ?_ ?_
    rotate_left
    ((intro wz hz; (try dsimp only at hz); go_simp) <;> with_reducible rfl)
    try simp only [Act.put, List.setIfInBounds_toArray, List.set_cons_zero, List.set_cons_succ]
    refine takeH 21 (fun _ _ _ _ _ h => h) (by kernel_rfl) hHeld rfl (by kernel_rfl) (by rfl) (v := ?_) ?_ ?_
    rotate_left
    ((intro wz hz; (try dsimp only at hz); go_simp) <;> with_reducible rfl)
    try simp only [Act.put, List.setIfInBounds_toArray, List.set_cons_zero, List.set_cons_succ]
    refine takeH 22 (fun _ _ _ _ _ h => h) (by kernel_rfl) hHeld rfl (by kernel_rfl) (by rfl) (v := ?_) ?_ ?_
    rotate_left
    ((intro wz hz; (try dsimp only at hz); go_simp) <;> with_reducible rfl)
    try simp only [Act.put, List.setIfInBounds_toArray, List.set_cons_zero, List.set_cons_succ]
    refine wpAnyH_done (by kernel_rfl) (NoPanic.normal ?_) _
    go_wp2
    go_ret
    exact ⟨rfl, hHeld.2.2.2.2.2.2.2.2⟩

end Go.Proofs.Ytcdfpceagobicaa
