import Derived.Test.YtallfmiikjmgaaaDoorZWref17
import Derived.Test.YtallfmiikjmgaaaDoorZWrsum
import Derived.Test.YtallfmiikjmgaaaDoorZLnkeys
set_option linter.unusedVariables false
set_option linter.unusedSimpArgs false
/- Walks: the reference of layer 17: the secret, the body. -/
namespace Go.Proofs.YtallfmiikjmgaaaDoor
open Go.RowKit

theorem own_row8 {w : World} {g : Nat} {L : List Nat} (h : Row w g (u8s L) 5) (base : Nat) (hb : base ≤ g) (hl : L.length ≤ 1000000) : OwnB w base (.slice (some ⟨g, 0, none⟩) L.length L.length) L :=
  ⟨by simp, .inr ⟨g, L.length, u8s L, rfl, hb, h, Nat.le_refl _, by unfold maxLen; omega, by rw [u8s_size, Nat.mul_one], by unfold u8s; rw [Nat.mul_one]; exact List.take_of_length_le (by simp)⟩⟩
set_option maxRecDepth 8000 in
set_option maxHeartbeats 2000000 in
theorem r17Secret (ax ay px py : Int) (ax0 : 0 ≤ ax) (ay0 : 0 ≤ ay) (px0 : 0 ≤ px) (py0 : 0 ≤ py) (ax1 : ax < 288230376287764481) (ay1 : ay < 288230376287764481) (px1 : px < 288230376287764481) (py1 : py < 288230376287764481) (w : World) :
    Calls Tryd.prog 22 #[edV ax ay, edV px py] w fun e w' => ∃ g c, e = .returned (.slice (some ⟨g, 0, none⟩) 32 c) ∧ OwnB w' w.heap.size (.slice (some ⟨g, 0, none⟩) 32 c) (secL (ax.toNat, ay.toNat) (px.toNat, py.toNat)) ∧ Below w.heap.size w w' := by
  have cA := Lib.hid (fun w => r7Bytes ax ay ax0 (by omega) ay0 (by omega) w)
  have cP := Lib.hid (fun w => r7Bytes px py px0 (by omega) py0 (by omega) w)
  clear ax1 ay1 px1 py1
  go_enter Tryd.func22, Tryd.ntmps22
  go_upto_region 1 with fail
  have H0 := Lib.hid (((HR.refl w).new #[.int .u64 ax, .int .u64 ay] 29).new #[.int .u64 px, .int .u64 py] 29)
  rw [World.size_alloc] at H0
  generalize (w.alloc (.cells #[.int .u64 ax, .int .u64 ay] 29)).alloc (.cells #[.int .u64 px, .int .u64 py] 29) = w2 at H0 ⊢
  have hbw : w.heap.size + 1 < w2.heap.size := H0.out.lt (b := w.heap.size + 1) (cs := #[.int .u64 px, .int .u64 py]) (t := 29) (by simp)
  generalize hb4 : w.heap.size + 1 = b4 at H0 hbw ⊢
  generalize hb3 : w.heap.size = b3 at H0 ⊢
  have hbs : Hid (b3 < b4 ∧ w.heap.size = b3) := Lib.hid (by omega)
  clear hb4 hb3
  refine wp_region_noPanic ?_
  refine wp_region_held_drew (S := fun wq => wq.cell? ⟨b4, 0, none⟩ = some (.int .u64 px) ∧ wq.cell? ⟨b4, 1, none⟩ = some (.int .u64 py) ∧ wq.cell? ⟨b3, 0, none⟩ = some (.int .u64 ax) ∧ wq.cell? ⟨b3, 1, none⟩ = some (.int .u64 ay) ∧ HR w wq [(b4, #[.int .u64 px, .int .u64 py], 29), (b3, #[.int .u64 ax, .int .u64 ay], 29)]) (by kernel_rfl) ?_ (fun hHeld => ?_)
  · have hq0 := HR.drew H0.out
    exact ⟨HR.cell hq0 (b := b4) (cs := #[.int .u64 px, .int .u64 py]) (t := 29) (by simp) 0 rfl, HR.cell hq0 (b := b4) (cs := #[.int .u64 px, .int .u64 py]) (t := 29) (by simp) 1 rfl, HR.cell hq0 (b := b3) (cs := #[.int .u64 ax, .int .u64 ay]) (t := 29) (by simp) 0 rfl, HR.cell hq0 (b := b3) (cs := #[.int .u64 ax, .int .u64 ay]) (t := 29) (by simp) 1 rfl, hq0⟩
  refine takeH 0 (fun _ _ _ _ _ h => h) (by kernel_rfl) hHeld rfl (by kernel_rfl) (by rfl) (v := ?_) ?_ ?_
  rotate_left
  ((intro wz hz; (try dsimp only at hz); go_simp) <;> with_reducible rfl)
  try simp only [Act.put, List.setIfInBounds_toArray, List.set_cons_zero, List.set_cons_succ]
  refine takeH 2 (fun _ _ _ _ _ h => h) (by kernel_rfl) hHeld rfl (by kernel_rfl) (by rfl) (v := ?_) ?_ ?_
  rotate_left
  ((intro wz hz; (try dsimp only at hz); go_simp) <;> with_reducible rfl)
  try simp only [Act.put, List.setIfInBounds_toArray, List.set_cons_zero, List.set_cons_succ]
  refine stepH 1 (by kernel_rfl) rfl (by rfl) (fun K hK => ?_)
  go_simp
  refine (cA.out _).mono ?_
  rintro e wc1 ⟨g1, rfl, hg1, R1, hbc1⟩
  have hrc1 := HR.next hHeld.2.2.2.2 hbc1
  have RA := Lib.hid R1
  refine hK.out _ _ ?_ (fun hHeld => ?_)
  · exact ⟨HR.cell hrc1 (b := b4) (cs := #[.int .u64 px, .int .u64 py]) (t := 29) (by simp) 0 rfl, HR.cell hrc1 (b := b4) (cs := #[.int .u64 px, .int .u64 py]) (t := 29) (by simp) 1 rfl, HR.cell hrc1 (b := b3) (cs := #[.int .u64 ax, .int .u64 ay]) (t := 29) (by simp) 0 rfl, HR.cell hrc1 (b := b3) (cs := #[.int .u64 ax, .int .u64 ay]) (t := 29) (by simp) 1 rfl, hrc1⟩
  clear hK K
  try simp only [Act.put, List.setIfInBounds_toArray, List.set_cons_zero, List.set_cons_succ]
  refine stepH 3 (by kernel_rfl) rfl (by rfl) (fun K hK => ?_)
  go_simp
  refine (cP.out _).mono ?_
  rintro e wc2 ⟨g2, rfl, hg2, R2, hbc2⟩
  have hrc2 := HR.next hHeld.2.2.2.2 hbc2
  have RB := Lib.hid R2
  have RA2 := RA.out.below hbc2 RA.out.lt
  refine hK.out _ _ ?_ (fun hHeld => ?_)
  · exact ⟨HR.cell hrc2 (b := b4) (cs := #[.int .u64 px, .int .u64 py]) (t := 29) (by simp) 0 rfl, HR.cell hrc2 (b := b4) (cs := #[.int .u64 px, .int .u64 py]) (t := 29) (by simp) 1 rfl, HR.cell hrc2 (b := b3) (cs := #[.int .u64 ax, .int .u64 ay]) (t := 29) (by simp) 0 rfl, HR.cell hrc2 (b := b3) (cs := #[.int .u64 ax, .int .u64 ay]) (t := 29) (by simp) 1 rfl, hrc2⟩
  clear hK K
  try simp only [Act.put, List.setIfInBounds_toArray, List.set_cons_zero, List.set_cons_succ]
  have hO1 := own_row8 RA2 w.heap.size (by have := hrc1.2.size; have := hbs.out; exact Nat.le_trans (Nat.le_trans (by omega : w.heap.size ≤ w2.heap.size) (Nat.le_refl _)) hg1) (by show 8 ≤ 1000000; decide)
  obtain ⟨va, wa', hra, hOa, hba, hga, -⟩ := append_ownB wc2 w.heap.size _ _ (Obol.be8 (Obol.codeN (px.toNat, py.toNat))) hO1 ⟨g2, 0, none⟩ 8 8 rfl (fun k hk => by rw [addB]; exact R2.bl k hk) (by show 8 + 8 ≤ 140737488355328; decide) hrc2.2.size
  obtain ⟨g3, c3, cur3, rfl, -, -, -, -, -, -⟩ := hOa.size (by show 0 < 8 + 8; decide)
  have hsr := (OwnB.sl hOa).2.arg
  refine stepH 4 (by kernel_rfl) rfl (by rfl) (fun K hK => ?_)
  refine wp_appended _ _ _ _ rfl _ _ _ rfl rfl hra ?_
  have hd0 : w2.drew.heap.size = w2.heap.size := rfl
  have hd1 := hbs.out
  have hrcA : HR w wa' [(b4, #[.int .u64 px, .int .u64 py], 29), (b3, #[.int .u64 ax, .int .u64 ay], 29)] := ⟨fun r hr => (hga.block r.1 (hrc2.1 r hr).lt (fun h => by simp at hr; rcases hr with rfl | rfl <;> simp [Value.ownBlock] at h <;> omega)).trans (hrc2.1 r hr), hrc2.2.trans hba⟩
  refine hK.out _ _ ?_ (fun hHeld => ?_)
  · exact ⟨HR.cell hrcA (b := b4) (cs := #[.int .u64 px, .int .u64 py]) (t := 29) (by simp) 0 rfl, HR.cell hrcA (b := b4) (cs := #[.int .u64 px, .int .u64 py]) (t := 29) (by simp) 1 rfl, HR.cell hrcA (b := b3) (cs := #[.int .u64 ax, .int .u64 ay]) (t := 29) (by simp) 0 rfl, HR.cell hrcA (b := b3) (cs := #[.int .u64 ax, .int .u64 ay]) (t := 29) (by simp) 1 rfl, hrcA⟩
  clear hK K
  try simp only [Act.put, List.setIfInBounds_toArray, List.set_cons_zero, List.set_cons_succ]
  have cS := Lib.hid (r5Sum notesS (by decide) (some ⟨g3, 0, none⟩) 16 c3 _ (show B8 16 (Obol.be8 _ ++ Obol.be8 _) from noteT_b8 _ _) (by omega) wa' hsr.1 hsr.2)
  clear hra hOa hba hga hsr hO1
  refine stepH 5 (by kernel_rfl) rfl (by rfl) (fun K hK => ?_)
  go_simp
  refine (cS.out).mono ?_
  rintro e wc3 ⟨g4, c4, rfl, hO4, hbc3⟩
  have hrc3 := HR.next hHeld.2.2.2.2 hbc3
  refine hK.out _ _ ?_ (fun hHeld => ?_)
  · exact ⟨HR.cell hrc3 (b := b4) (cs := #[.int .u64 px, .int .u64 py]) (t := 29) (by simp) 0 rfl, HR.cell hrc3 (b := b4) (cs := #[.int .u64 px, .int .u64 py]) (t := 29) (by simp) 1 rfl, HR.cell hrc3 (b := b3) (cs := #[.int .u64 ax, .int .u64 ay]) (t := 29) (by simp) 0 rfl, HR.cell hrc3 (b := b3) (cs := #[.int .u64 ax, .int .u64 ay]) (t := 29) (by simp) 1 rfl, hrc3⟩
  clear hK K
  try simp only [Act.put, List.setIfInBounds_toArray, List.set_cons_zero, List.set_cons_succ]
  refine takeH 6 (fun _ _ _ _ _ h => h) (by kernel_rfl) hHeld rfl (by kernel_rfl) (by rfl) (v := ?_) ?_ ?_
  rotate_left
  ((intro wz hz; (try dsimp only at hz); go_simp) <;> with_reducible rfl)
  try simp only [Act.put, List.setIfInBounds_toArray, List.set_cons_zero, List.set_cons_succ]
  refine wpAnyH_done (by kernel_rfl) (NoPanic.normal ?_) _
  have O := Lib.hid (hO4.base hrcA.2.size)
  go_wp2_with fail
  go_ret
  exact ⟨g4, c4, rfl, O.out, hHeld.2.2.2.2.2⟩
set_option maxRecDepth 8000 in
set_option maxHeartbeats 4000000 in
theorem r17Body (bk ok ck : Nat) (K : List Nat) (HK0 : B8 32 K) (v o r : Int) (v0 : 0 ≤ v) (v1 : v ≤ 18446744073709551615) (r0 : 0 ≤ r) (r1 : r ≤ 18446744073709551615) (w : World) (hbk0 : bk < w.heap.size) (hBK0 : BL w bk ok K) :
    Calls Tryd.prog 23 #[.slice (some ⟨bk, ok, none⟩) 32 ck, ntV v o r] w fun e w' => ∃ g c, e = .returned (.slice (some ⟨g, 0, none⟩) 32 c) ∧ OwnB w' w.heap.size (.slice (some ⟨g, 0, none⟩) 32 c) (bodyL K v.toNat r.toNat) ∧ Below w.heap.size w w' := by
  have cV := Lib.hid (fun w => r2Bytes v v0 v1 w)
  have cR := Lib.hid (fun w => r2Bytes r r0 r1 w)
  have HK := Lib.hid HK0
  have hbk := Lib.hid hbk0
  have hBK := Lib.hid hBK0
  have hz12 : Hid (B8 12 z12) := Lib.hid (cp0_b8 12)
  have mk12 : ∀ W, (Instr.makeSlice 42 (.int .i64 12) (.int .i64 12)).run Tryd.prog W = .ok (.slice (some ⟨W.heap.size, 0, none⟩) 12 12) (W.alloc (.cells (u8s z12) 5)) := fun W => make8 12 (by omega) W
  clear hbk0 hBK0 HK0
  go_enter Tryd.func23, Tryd.ntmps23
  go_upto_region 2 with fail
  have hz := ((HR.refl w).new #[.int .u64 v, .int .u64 o, .int .u64 r] 41).new (u8s z12) 5
  rw [World.size_alloc] at hz
  generalize (w.alloc (.cells #[.int .u64 v, .int .u64 o, .int .u64 r] 41)).alloc (.cells (u8s z12) 5) = w2 at hz ⊢
  have hbw : w.heap.size + 1 < w2.heap.size := hz.lt (b := w.heap.size + 1) (cs := u8s z12) (t := 5) (by simp)
  generalize hb5 : w.heap.size + 1 = b5 at hz hbw ⊢
  generalize hb3 : w.heap.size = b3 at hz ⊢
  have hbs : Hid (b3 < b5 ∧ w.heap.size = b3 ∧ b5 < w2.heap.size) := Lib.hid (by omega)
  have H0 : Hid (HR w w2 [(b3, #[.int .u64 v, .int .u64 o, .int .u64 r], 41)]) := Lib.hid hz.tail
  have RZ : Hid (Row w2 b5 (u8s z12) 5) := Lib.hid (hz.row (by simp))
  clear hb5 hb3 hz mk12
  refine wp_region_noPanic ?_
  refine wp_region_held_drew (S := fun wq => wq.cell? ⟨b3, 0, none⟩ = some (.int .u64 v) ∧ wq.cell? ⟨b3, 1, none⟩ = some (.int .u64 o) ∧ wq.cell? ⟨b3, 2, none⟩ = some (.int .u64 r) ∧ Row wq b5 (u8s z12) 5 ∧ HR w wq [(b3, #[.int .u64 v, .int .u64 o, .int .u64 r], 41)]) (by kernel_rfl) ?_ (fun hHeld => ?_)
  · have hq0 := HR.drew H0.out
    exact ⟨HR.cell hq0 (b := b3) (cs := #[.int .u64 v, .int .u64 o, .int .u64 r]) (t := 41) (by simp) 0 rfl, HR.cell hq0 (b := b3) (cs := #[.int .u64 v, .int .u64 o, .int .u64 r]) (t := 41) (by simp) 1 rfl, HR.cell hq0 (b := b3) (cs := #[.int .u64 v, .int .u64 o, .int .u64 r]) (t := 41) (by simp) 2 rfl, (Row.drew RZ.out), hq0⟩
  refine takeH 0 (fun _ _ _ _ _ h => h) (by kernel_rfl) hHeld rfl (by kernel_rfl) (by rfl) (v := ?_) ?_ ?_
  rotate_left
  ((intro wz hz; (try dsimp only at hz); go_simp) <;> with_reducible rfl)
  try simp only [Act.put, List.setIfInBounds_toArray, List.set_cons_zero, List.set_cons_succ]
  refine takeH 1 (fun _ _ _ _ _ h => h) (by kernel_rfl) hHeld rfl (by kernel_rfl) (by rfl) (v := ?_) ?_ ?_
  rotate_left
  ((intro wz hz; (try dsimp only at hz); go_simp) <;> with_reducible rfl)
  try simp only [Act.put, List.setIfInBounds_toArray, List.set_cons_zero, List.set_cons_succ]
  refine takeH 2 (fun _ _ _ _ _ h => h) (by kernel_rfl) hHeld rfl (by kernel_rfl) (by rfl) (v := ?_) ?_ ?_
  rotate_left
  ((intro wz hz; (try dsimp only at hz); go_simp) <;> with_reducible rfl)
  try simp only [Act.put, List.setIfInBounds_toArray, List.set_cons_zero, List.set_cons_succ]
  refine takeH 3 (fun _ _ _ _ _ h => h) (by kernel_rfl) hHeld rfl (by kernel_rfl) (by rfl) (v := ?_) ?_ ?_
  rotate_left
  ((intro wz hz; (try dsimp only at hz); go_simp) <;> with_reducible rfl)
  try simp only [Act.put, List.setIfInBounds_toArray, List.set_cons_zero, List.set_cons_succ]
  refine takeH 5 (fun _ _ _ _ _ h => h) (by kernel_rfl) hHeld rfl (by kernel_rfl) (by rfl) (v := ?_) ?_ ?_
  rotate_left
  ((intro wz hz; (try dsimp only at hz); go_simp) <;> with_reducible rfl)
  try simp only [Act.put, List.setIfInBounds_toArray, List.set_cons_zero, List.set_cons_succ]
  refine takeH 6 (fun _ _ _ _ _ h => h) (by kernel_rfl) hHeld rfl (by kernel_rfl) (by rfl) (v := ?_) ?_ ?_
  rotate_left
  ((intro wz hz; (try dsimp only at hz); go_simp) <;> with_reducible rfl)
  try simp only [Act.put, List.setIfInBounds_toArray, List.set_cons_zero, List.set_cons_succ]
  refine stepH 4 (by kernel_rfl) rfl (by rfl) (fun K hK => ?_)
  go_simp
  refine (cV.out _).mono ?_
  rintro e wc1 ⟨rfl, R1, hbc1⟩
  have hrc1 := HR.next hHeld.2.2.2.2 hbc1
  have RA := Lib.hid R1
  refine hK.out _ _ ?_ (fun hHeld => ?_)
  · exact ⟨HR.cell hrc1 (b := b3) (cs := #[.int .u64 v, .int .u64 o, .int .u64 r]) (t := 41) (by simp) 0 rfl, HR.cell hrc1 (b := b3) (cs := #[.int .u64 v, .int .u64 o, .int .u64 r]) (t := 41) (by simp) 1 rfl, HR.cell hrc1 (b := b3) (cs := #[.int .u64 v, .int .u64 o, .int .u64 r]) (t := 41) (by simp) 2 rfl, (hHeld.2.2.2.1.below hbc1 hHeld.2.2.2.1.lt), hrc1⟩
  clear hK K
  try simp only [Act.put, List.setIfInBounds_toArray, List.set_cons_zero, List.set_cons_succ]
  refine stepH 7 (by kernel_rfl) rfl (by rfl) (fun K hK => ?_)
  go_simp
  refine (cR.out _).mono ?_
  rintro e wc2 ⟨rfl, R2, hbc2⟩
  have hrc2 := HR.next hHeld.2.2.2.2 hbc2
  have RB := Lib.hid R2
  have RA2 := RA.out.below hbc2 RA.out.lt
  refine hK.out _ _ ?_ (fun hHeld => ?_)
  · exact ⟨HR.cell hrc2 (b := b3) (cs := #[.int .u64 v, .int .u64 o, .int .u64 r]) (t := 41) (by simp) 0 rfl, HR.cell hrc2 (b := b3) (cs := #[.int .u64 v, .int .u64 o, .int .u64 r]) (t := 41) (by simp) 1 rfl, HR.cell hrc2 (b := b3) (cs := #[.int .u64 v, .int .u64 o, .int .u64 r]) (t := 41) (by simp) 2 rfl, (hHeld.2.2.2.1.below hbc2 hHeld.2.2.2.1.lt), hrc2⟩
  clear hK K
  try simp only [Act.put, List.setIfInBounds_toArray, List.set_cons_zero, List.set_cons_succ]
  have hd0 : w2.drew.heap.size = w2.heap.size := rfl
  have hd1 := hbs.out
  have hO1 := own_row8 RA2 w.heap.size (by omega) (by show 8 ≤ 1000000; decide)
  obtain ⟨va, wa', hra, hOa, hba, hga, -⟩ := append_ownB wc2 w.heap.size _ _ (Obol.be8 r.toNat) hO1 ⟨wc1.heap.size, 0, none⟩ 8 8 rfl (fun k hk => by rw [addB]; exact R2.bl k hk) (by show 8 + 8 ≤ 140737488355328; decide) hrc2.2.size
  obtain ⟨g3, c3, cur3, rfl, -, -, -, -, -, -⟩ := hOa.size (by show 0 < 8 + 8; decide)
  have hsr := (OwnB.sl hOa).2
  have hrcA : HR w wa' [(b3, #[.int .u64 v, .int .u64 o, .int .u64 r], 41)] := ⟨fun q hq => (hga.block q.1 (hrc2.1 q hq).lt (fun h => by simp at hq; subst hq; simp [Value.ownBlock] at h; omega)).trans (hrc2.1 q hq), hrc2.2.trans hba⟩
  have RZA : Row wa' b5 (u8s z12) 5 := (hga.block b5 (hHeld.2.2.2.1).lt (fun h => by simp [Value.ownBlock] at h; omega)).trans (hHeld.2.2.2.1)
  refine stepH 8 (by kernel_rfl) rfl (by rfl) (fun K hK => ?_)
  refine wp_appended _ _ _ _ rfl _ _ _ rfl rfl hra ?_
  refine hK.out _ _ ?_ (fun hHeld => ?_)
  · exact ⟨HR.cell hrcA (b := b3) (cs := #[.int .u64 v, .int .u64 o, .int .u64 r]) (t := 41) (by simp) 0 rfl, HR.cell hrcA (b := b3) (cs := #[.int .u64 v, .int .u64 o, .int .u64 r]) (t := 41) (by simp) 1 rfl, HR.cell hrcA (b := b3) (cs := #[.int .u64 v, .int .u64 o, .int .u64 r]) (t := 41) (by simp) 2 rfl, RZA, hrcA⟩
  clear hK K
  try simp only [Act.put, List.setIfInBounds_toArray, List.set_cons_zero, List.set_cons_succ]
  have cS := Lib.hid (rStream bk ok ck b5 0 12 K z12 HK.out hz12.out (some ⟨g3, 0, none⟩) 16 c3 _ (noteT_b8 v.toNat r.toNat) (by omega) (fun h => by cases h) wa' (Nat.lt_of_lt_of_le hbk.out hrcA.2.size) RZA.lt (hBK.out.below hrcA.2 hbk.out) RZA.bl (fun h => hsr.bl h))
  have hwa := Lib.hid hrcA.2.size
  clear hra hOa hba hga hsr hO1
  refine stepH 9 (by kernel_rfl) rfl (by rfl) (fun K hK => ?_)
  go_simp
  refine (cS.out).mono ?_
  rintro e wc3 ⟨rfl, RC, hbc3⟩
  have hrc3 := HR.next hHeld.2.2.2.2 hbc3
  have RC := Lib.hid RC
  refine hK.out _ _ ?_ (fun hHeld => ?_)
  · exact ⟨HR.cell hrc3 (b := b3) (cs := #[.int .u64 v, .int .u64 o, .int .u64 r]) (t := 41) (by simp) 0 rfl, HR.cell hrc3 (b := b3) (cs := #[.int .u64 v, .int .u64 o, .int .u64 r]) (t := 41) (by simp) 1 rfl, HR.cell hrc3 (b := b3) (cs := #[.int .u64 v, .int .u64 o, .int .u64 r]) (t := 41) (by simp) 2 rfl, (hHeld.2.2.2.1.below hbc3 hHeld.2.2.2.1.lt), hrc3⟩
  clear hK K
  try simp only [Act.put, List.setIfInBounds_toArray, List.set_cons_zero, List.set_cons_succ]
  refine takeH 10 (fun _ _ _ _ _ h => h) (by kernel_rfl) hHeld rfl (by kernel_rfl) (by rfl) (v := ?_) ?_ ?_
  rotate_left
  ((intro wz hz; (try dsimp only at hz); go_simp) <;> with_reducible rfl)
  try simp only [Act.put, List.setIfInBounds_toArray, List.set_cons_zero, List.set_cons_succ]
  refine wpAnyH_done (by kernel_rfl) (NoPanic.normal ?_) _
  have H3 := Lib.hid hHeld.2.2.2.2
  have RZ3 := Lib.hid hHeld.2.2.2.1
  have RC3 := Lib.hid (show Row wc3 wa'.heap.size (u8s (Obol.strm K z12 (noteT v.toNat r.toNat))) 5 from by
    have h := RC.out
    rw [show (16 : Nat) = (noteT v.toNat r.toNat).length from (noteT_b8 _ _).len.symm, Obol.strm_ref] at h
    exact h)
  have hC16 : (Obol.strm K z12 (noteT v.toNat r.toNat)).length = 16 := by rw [Obol.strm_len]; exact (noteT_b8 _ _).len
  have hCb := Obol.strm_lt K z12 (noteT_b8 v.toNat r.toNat).lt
  obtain ⟨C, hC⟩ : ∃ l, Obol.strm K z12 (noteT v.toNat r.toNat) = l := ⟨_, rfl⟩
  rw [hC] at RC3 hC16 hCb
  have hO3 := own_row8 RC3.out w.heap.size hwa.out (by omega)
  rw [hC16] at hO3
  have O3 := Lib.hid hO3
  have cB := Lib.hid (rBoth bk ok ck b5 0 12 K z12 HK.out hz12.out (.slice none 0 0) (.slice (some ⟨wa'.heap.size, 0, none⟩) 16 16) [] C wc3 (Nat.lt_of_lt_of_le hbk.out H3.out.2.size) RZ3.out.lt (hBK.out.below H3.out.2 hbk.out) RZ3.out.bl (seg_nil _ _) ((OwnB.sl hO3).2.seg ⟨hC16, hCb⟩ (by omega)))
  replace hC := Lib.hid hC
  replace hC16 := Lib.hid hC16
  clear hO3 hCb RC RC3
  go_wp2_with fail
  refine cB.out.mono ?_
  rintro e w4 ⟨g4, rfl, R4, hg4, hb4⟩
  have hB4 := bThen H3.out.2 hb4 H3.out.2.size
  obtain ⟨va, w5, hra, hOa, hba, -, -⟩ := append_ownB w4 w.heap.size _ C (Obol.bothL K z12 [] C) (O3.out.below hb4) ⟨g4, 0, none⟩ 16 16 (Obol.bothL_len _ _ _ _) (fun k hk => by rw [addB]; exact R4.bl k hk) (by rw [hC16.out, Obol.bothL_len]; decide) hB4.size
  have hl32 : (C ++ Obol.bothL K z12 [] C).length = 32 := by rw [List.length_append, hC16.out, Obol.bothL_len]
  obtain ⟨g5, c5, cur5, rfl, -, -, -, -, -, -⟩ := hOa.size (by rw [hl32]; decide)
  rw [hl32] at hOa hra
  have O5 : Hid (OwnB w5 w.heap.size (.slice (some ⟨g5, 0, none⟩) 32 c5) (bodyL K v.toNat r.toNat)) := Lib.hid (by unfold bodyL; rw [hC.out]; exact hOa)
  have B5 := Lib.hid (hB4.trans hba)
  clear hOa hba hl32 hB4 hb4 R4 hg4 O3
  go_wp2_with (at_builtin; refine wpList_appended rfl _ _ _ _ rfl _ _ _ rfl rfl hra ?_)
  go_ret
  exact ⟨g5, c5, rfl, O5.out, B5.out⟩

end Go.Proofs.YtallfmiikjmgaaaDoor
/- Walks: the reference of layer 17: a sealed note opened. -/
namespace Go.Proofs.YtallfmiikjmgaaaDoor
open Go.RowKit

set_option maxRecDepth 8000 in
set_option maxHeartbeats 4000000 in
theorem r17OpenP (k x y : Int) (ao : Option Addr) (len cap : Nat) (hP : ∀ W, Calls Tryd.prog 21 #[edV x y] W fun e' w' => e' = .returned (.bool false) ∧ Below W.heap.size W w') (w : World) :
    Calls Tryd.prog 25 #[.int .u64 k, .agg #[.int .u64 x, .int .u64 y, .slice ao len cap]] w fun e' w' => e' = .returned (.tuple #[ntV 0 0 0, .bool false]) ∧ Below w.heap.size w w' := by
  have cP := Lib.hid hP
  clear hP
  go_enter Tryd.func25, Tryd.ntmps25
  go_upto_region 1 with fail
  have H1 := Lib.hid (((HR.refl w).new #[.int .u64 x, .int .u64 y, .slice ao len cap] 44).new #[.int .u64 0, .int .u64 0, .int .u64 0] 41)
  simp only [World.size_alloc] at H1
  generalize (w.alloc (.cells #[.int .u64 x, .int .u64 y, .slice ao len cap] 44)).alloc (.cells #[.int .u64 0, .int .u64 0, .int .u64 0] 41) = w1 at H1 ⊢
  obtain ⟨b1, hb1⟩ : ∃ z, w.heap.size + 1 = z := ⟨_, rfl⟩
  obtain ⟨b0, hb0⟩ : ∃ z, w.heap.size = z := ⟨_, rfl⟩
  have H2 : Hid (HR w w1 [(b1, #[.int .u64 0, .int .u64 0, .int .u64 0], 41), (b0, #[.int .u64 x, .int .u64 y, .slice ao len cap], 44)]) := Lib.hid (by rw [← hb1, ← hb0]; exact H1.out)
  rw [hb1, hb0]
  have ho : Hid (w.heap.size ≤ b0 ∧ b0 < b1) := Lib.hid (by omega)
  replace hb0 := Lib.hid hb0
  replace hb1 := Lib.hid hb1
  clear H1
  have c_b1_0 := H2.out.cell (b := b1) (cs := #[.int .u64 0, .int .u64 0, .int .u64 0]) (t := 41) (by simp) 0 rfl
  have c_b1_1 := H2.out.cell (b := b1) (cs := #[.int .u64 0, .int .u64 0, .int .u64 0]) (t := 41) (by simp) 1 rfl
  have c_b1_2 := H2.out.cell (b := b1) (cs := #[.int .u64 0, .int .u64 0, .int .u64 0]) (t := 41) (by simp) 2 rfl
  have c_b0_0 := H2.out.cell (b := b0) (cs := #[.int .u64 x, .int .u64 y, .slice ao len cap]) (t := 44) (by simp) 0 rfl
  have c_b0_1 := H2.out.cell (b := b0) (cs := #[.int .u64 x, .int .u64 y, .slice ao len cap]) (t := 44) (by simp) 1 rfl
  have c_b0_2 := H2.out.cell (b := b0) (cs := #[.int .u64 x, .int .u64 y, .slice ao len cap]) (t := 44) (by simp) 2 rfl
  have f_b1_0 := H2.out.free (b := b1) (cs := #[.int .u64 0, .int .u64 0, .int .u64 0]) (t := 41) (by simp) 0
  have f_b1_1 := H2.out.free (b := b1) (cs := #[.int .u64 0, .int .u64 0, .int .u64 0]) (t := 41) (by simp) 1
  have f_b1_2 := H2.out.free (b := b1) (cs := #[.int .u64 0, .int .u64 0, .int .u64 0]) (t := 41) (by simp) 2
  go_wp2_with fail
  refine (cP.out _).mono ?_
  rintro e' w4 ⟨rfl, hb4⟩
  have H4 := Lib.hid (H2.out.next hb4)
  clear c_b1_0 c_b1_1 c_b1_2 c_b0_0 c_b0_1 c_b0_2 f_b1_0 f_b1_1 f_b1_2
  clear hb4 H2
  have c_b0_0 := H4.out.cell (b := b0) (cs := #[.int .u64 x, .int .u64 y, .slice ao len cap]) (t := 44) (by simp) 0 rfl
  have c_b0_1 := H4.out.cell (b := b0) (cs := #[.int .u64 x, .int .u64 y, .slice ao len cap]) (t := 44) (by simp) 1 rfl
  have c_b0_2 := H4.out.cell (b := b0) (cs := #[.int .u64 x, .int .u64 y, .slice ao len cap]) (t := 44) (by simp) 2 rfl
  have c_b1_0 := H4.out.cell (b := b1) (cs := #[.int .u64 0, .int .u64 0, .int .u64 0]) (t := 41) (by simp) 0 rfl
  have c_b1_1 := H4.out.cell (b := b1) (cs := #[.int .u64 0, .int .u64 0, .int .u64 0]) (t := 41) (by simp) 1 rfl
  have c_b1_2 := H4.out.cell (b := b1) (cs := #[.int .u64 0, .int .u64 0, .int .u64 0]) (t := 41) (by simp) 2 rfl
  have f_b1_0 := H4.out.free (b := b1) (cs := #[.int .u64 0, .int .u64 0, .int .u64 0]) (t := 41) (by simp) 0
  have f_b1_1 := H4.out.free (b := b1) (cs := #[.int .u64 0, .int .u64 0, .int .u64 0]) (t := 41) (by simp) 1
  have f_b1_2 := H4.out.free (b := b1) (cs := #[.int .u64 0, .int .u64 0, .int .u64 0]) (t := 41) (by simp) 2
  have B4 := Lib.hid (bSet (bSet (bSet H4.out.2 (b := b1) (o := 0) (u := .int .u64 0) (by have := ho.out; omega)) (b := b1) (o := 1) (u := .int .u64 0) (by have := ho.out; omega)) (b := b1) (o := 2) (u := .int .u64 0) (by have := ho.out; omega))
  have hR := (H4.out.row (b := b1) (cs := #[.int .u64 0, .int .u64 0, .int .u64 0]) (t := 41) (by simp)).set3 (v0 := .int .u64 0) (v1 := .int .u64 0) (v2 := .int .u64 0)
  have s0 := hR.cell 0 rfl
  have s1 := hR.cell 1 rfl
  have s2 := hR.cell 2 rfl
  clear hR
  go_wp2_with fail
  refine bodyPost_ret (v := .tuple #[.agg #[.int .u64 0, .int .u64 0, .int .u64 0], .bool false]) (by simp [results, Tryd.results25, go_sem, s0, s1, s2]) rfl ⟨rfl, B4.out⟩
set_option maxRecDepth 8000 in
set_option maxHeartbeats 4000000 in
theorem r17OpenL (k x y : Int) (ao : Option Addr) (len cap : Nat) (hP : ∀ W, Calls Tryd.prog 21 #[edV x y] W fun e' w' => e' = .returned (.bool true) ∧ Below W.heap.size W w') (hl : len ≠ 32) (w : World) :
    Calls Tryd.prog 25 #[.int .u64 k, .agg #[.int .u64 x, .int .u64 y, .slice ao len cap]] w fun e' w' => e' = .returned (.tuple #[ntV 0 0 0, .bool false]) ∧ Below w.heap.size w w' := by
  have cP := Lib.hid hP
  have hl2 : ¬ (len : Int) = 32 := by omega
  have hl3 : ((len : Int) != 32) = true := by simp [hl2]
  clear hP
  go_enter Tryd.func25, Tryd.ntmps25
  go_upto_region 1 with fail
  have H1 := Lib.hid (((HR.refl w).new #[.int .u64 x, .int .u64 y, .slice ao len cap] 44).new #[.int .u64 0, .int .u64 0, .int .u64 0] 41)
  simp only [World.size_alloc] at H1
  generalize (w.alloc (.cells #[.int .u64 x, .int .u64 y, .slice ao len cap] 44)).alloc (.cells #[.int .u64 0, .int .u64 0, .int .u64 0] 41) = w1 at H1 ⊢
  obtain ⟨b1, hb1⟩ : ∃ z, w.heap.size + 1 = z := ⟨_, rfl⟩
  obtain ⟨b0, hb0⟩ : ∃ z, w.heap.size = z := ⟨_, rfl⟩
  have H2 : Hid (HR w w1 [(b1, #[.int .u64 0, .int .u64 0, .int .u64 0], 41), (b0, #[.int .u64 x, .int .u64 y, .slice ao len cap], 44)]) := Lib.hid (by rw [← hb1, ← hb0]; exact H1.out)
  rw [hb1, hb0]
  have ho : Hid (w.heap.size ≤ b0 ∧ b0 < b1) := Lib.hid (by omega)
  replace hb0 := Lib.hid hb0
  replace hb1 := Lib.hid hb1
  clear H1
  have c_b1_0 := H2.out.cell (b := b1) (cs := #[.int .u64 0, .int .u64 0, .int .u64 0]) (t := 41) (by simp) 0 rfl
  have c_b1_1 := H2.out.cell (b := b1) (cs := #[.int .u64 0, .int .u64 0, .int .u64 0]) (t := 41) (by simp) 1 rfl
  have c_b1_2 := H2.out.cell (b := b1) (cs := #[.int .u64 0, .int .u64 0, .int .u64 0]) (t := 41) (by simp) 2 rfl
  have c_b0_0 := H2.out.cell (b := b0) (cs := #[.int .u64 x, .int .u64 y, .slice ao len cap]) (t := 44) (by simp) 0 rfl
  have c_b0_1 := H2.out.cell (b := b0) (cs := #[.int .u64 x, .int .u64 y, .slice ao len cap]) (t := 44) (by simp) 1 rfl
  have c_b0_2 := H2.out.cell (b := b0) (cs := #[.int .u64 x, .int .u64 y, .slice ao len cap]) (t := 44) (by simp) 2 rfl
  have f_b1_0 := H2.out.free (b := b1) (cs := #[.int .u64 0, .int .u64 0, .int .u64 0]) (t := 41) (by simp) 0
  have f_b1_1 := H2.out.free (b := b1) (cs := #[.int .u64 0, .int .u64 0, .int .u64 0]) (t := 41) (by simp) 1
  have f_b1_2 := H2.out.free (b := b1) (cs := #[.int .u64 0, .int .u64 0, .int .u64 0]) (t := 41) (by simp) 2
  go_wp2_with fail
  refine (cP.out _).mono ?_
  rintro e' w4 ⟨rfl, hb4⟩
  have H4 := Lib.hid (H2.out.next hb4)
  clear c_b1_0 c_b1_1 c_b1_2 c_b0_0 c_b0_1 c_b0_2 f_b1_0 f_b1_1 f_b1_2
  clear hb4 H2
  have c_b0_0 := H4.out.cell (b := b0) (cs := #[.int .u64 x, .int .u64 y, .slice ao len cap]) (t := 44) (by simp) 0 rfl
  have c_b0_1 := H4.out.cell (b := b0) (cs := #[.int .u64 x, .int .u64 y, .slice ao len cap]) (t := 44) (by simp) 1 rfl
  have c_b0_2 := H4.out.cell (b := b0) (cs := #[.int .u64 x, .int .u64 y, .slice ao len cap]) (t := 44) (by simp) 2 rfl
  have c_b1_0 := H4.out.cell (b := b1) (cs := #[.int .u64 0, .int .u64 0, .int .u64 0]) (t := 41) (by simp) 0 rfl
  have c_b1_1 := H4.out.cell (b := b1) (cs := #[.int .u64 0, .int .u64 0, .int .u64 0]) (t := 41) (by simp) 1 rfl
  have c_b1_2 := H4.out.cell (b := b1) (cs := #[.int .u64 0, .int .u64 0, .int .u64 0]) (t := 41) (by simp) 2 rfl
  have f_b1_0 := H4.out.free (b := b1) (cs := #[.int .u64 0, .int .u64 0, .int .u64 0]) (t := 41) (by simp) 0
  have f_b1_1 := H4.out.free (b := b1) (cs := #[.int .u64 0, .int .u64 0, .int .u64 0]) (t := 41) (by simp) 1
  have f_b1_2 := H4.out.free (b := b1) (cs := #[.int .u64 0, .int .u64 0, .int .u64 0]) (t := 41) (by simp) 2
  have B4 := Lib.hid (bSet (bSet (bSet H4.out.2 (b := b1) (o := 0) (u := .int .u64 0) (by have := ho.out; omega)) (b := b1) (o := 1) (u := .int .u64 0) (by have := ho.out; omega)) (b := b1) (o := 2) (u := .int .u64 0) (by have := ho.out; omega))
  have hR := (H4.out.row (b := b1) (cs := #[.int .u64 0, .int .u64 0, .int .u64 0]) (t := 41) (by simp)).set3 (v0 := .int .u64 0) (v1 := .int .u64 0) (v2 := .int .u64 0)
  have s0 := hR.cell 0 rfl
  have s1 := hR.cell 1 rfl
  have s2 := hR.cell 2 rfl
  clear hR
  go_wp2_with fail
  refine bodyPost_ret (v := .tuple #[.agg #[.int .u64 0, .int .u64 0, .int .u64 0], .bool false]) (by simp [results, Tryd.results25, go_sem, s0, s1, s2]) rfl ⟨rfl, B4.out⟩
set_option maxRecDepth 8000 in
set_option maxHeartbeats 4000000 in
theorem r17OpenB (k x y : Int) (k0 : 0 ≤ k) (k2 : k ≤ 18446744073709551615) (x0 : 0 ≤ x) (y0 : 0 ≤ y) (xR : x < 288230376287764481) (yR : y < 288230376287764481) (hEn : Obol.isN (x.toNat, y.toNat) = true) (ao : Option Addr) (cap : Nat) (S : List Nat) (HS : B8 32 S) (hg : Obol.bothL (secL (x.toNat, y.toNat) (Obol.smulN (x.toNat, y.toNat) (Obol.scN k.toNat))) z12 [] (S.take 16) ≠ S.drop 16) (hP : ∀ W, Calls Tryd.prog 21 #[edV x y] W fun e' w' => e' = .returned (.bool true) ∧ Below W.heap.size W w') (w : World) (hS : SlI w.heap.size w ao cap S) :
    Calls Tryd.prog 25 #[.int .u64 k, .agg #[.int .u64 x, .int .u64 y, .slice ao 32 cap]] w fun e' w' => e' = .returned (.tuple #[ntV 0 0 0, .bool false]) ∧ Below w.heap.size w w' := by
  have cP := Lib.hid hP
  have cS := fun w => r17Scalar k k0 w
  have cM := fun W => r7MulN x y ((Obol.scN k.toNat : Nat) : Int) x0 y0 (by omega) (by have := scN_lt k.toNat; omega) hEn W
  obtain ⟨mx, my, mx0, my0, mxR, myR, hmx, hmy, -⟩ := mul_pt (x.toNat, y.toNat) (Obol.scN k.toNat)
  simp only [Int.toNat_natCast] at cM
  rw [hmx, hmy] at cM
  have cX := fun W => r17Secret x y mx my x0 y0 mx0 my0 xR yR mxR myR W
  have e2 : (mx.toNat, my.toNat) = Obol.smulN (x.toNat, y.toNat) (Obol.scN k.toNat) := Prod.ext (by show mx.toNat = _; omega) (by show my.toNat = _; omega)
  rw [e2] at cX
  have hK8 := Lib.hid (secL_b8 (x.toNat, y.toNat) (Obol.smulN (x.toNat, y.toNat) (Obol.scN k.toNat)))
  obtain ⟨K, hK⟩ : ∃ l, secL (x.toNat, y.toNat) (Obol.smulN (x.toNat, y.toNat) (Obol.scN k.toNat)) = l := ⟨_, rfl⟩
  rw [hK] at cX hK8 hg
  obtain ⟨s, hs⟩ : ∃ s : Int, ((Obol.scN k.toNat : Nat) : Int) = s := ⟨_, rfl⟩
  rw [hs] at cM cS
  obtain ⟨bs, os, rfl, hbs, hBS, hcap⟩ := hS.key HS (by omega)
  have hc3 := hS.cap
  have hz12 : Hid (B8 12 z12) := Lib.hid (cp0_b8 12)
  have mk12 : ∀ W, (Instr.makeSlice 42 (.int .i64 12) (.int .i64 12)).run Tryd.prog W = .ok (.slice (some ⟨W.heap.size, 0, none⟩) 12 12) (W.alloc (.cells (u8s z12) 5)) := fun W => make8 12 (by omega) W
  have hTl : (S.take 16).length = 16 := by rw [List.length_take, HS.len]; rfl
  have hT8 : Hid (B8 16 (S.take 16)) := Lib.hid ⟨hTl, fun i => by rw [Obol.getD_take]; split; exact HS.lt i; decide⟩
  have ST : Hid (SlI w.heap.size w (some ⟨bs, os, none⟩) cap (S.take 16)) := Lib.hid ⟨by rw [hTl]; omega, hc3, (fun h => by cases h), fun _ => ⟨bs, os, rfl, hbs, fun i hi => by rw [hTl] at hi; rw [hBS i (by rw [HS.len]; omega), Obol.getD_take, if_pos hi]⟩⟩
  have hRl : Hid ((S.drop 16).length = 16) := Lib.hid (by rw [List.length_drop, HS.len])
  have hBR : BL w bs (os + 16) (S.drop 16) := fun i hi => by
    rw [hRl.out] at hi
    rw [Nat.add_assoc, hBS (16 + i) (by rw [HS.len]; omega), Obol.getD_drop]
  have BR0 := Lib.hid (⟨hBR, hbs⟩ : BL w bs (os + 16) (S.drop 16) ∧ bs < w.heap.size)
  have hMl := Lib.hid (Obol.bothL_len K z12 [] (S.take 16))
  have hMb := Lib.hid (Obol.bothL_lt K z12 [] (S.take 16))
  have hRb : Hid (∀ i, (S.drop 16).getD i 0 < 256) := Lib.hid (fun i => by rw [Obol.getD_drop]; exact HS.lt _)
  obtain ⟨M, hM⟩ : ∃ l, Obol.bothL K z12 [] (S.take 16) = l := ⟨_, rfl⟩
  obtain ⟨Rr, hRr⟩ : ∃ l, S.drop 16 = l := ⟨_, rfl⟩
  rw [hM] at hMl hMb hg
  rw [hRr] at hRl BR0 hg hRb
  have hc16 : ¬ cap = 16 := by omega
  have hnc : (16 : Int) ≤ (cap : Int) := by omega
  have hnc2 : 16 ≤ cap := by omega
  replace cS := Lib.hid cS
  replace cM := Lib.hid cM
  replace cX := Lib.hid cX
  replace hK := Lib.hid hK
  replace hM := Lib.hid hM
  replace hRr := Lib.hid hRr
  replace HS := Lib.hid HS
  clear hP hmx hmy hEn e2 hs mx0 my0 mxR myR hbs hBS hBR hTl hS k0
  have hNe : Hid (((strB M).toList == (strB Rr).toList) = false) := Lib.hid (strB_ne hMb.out hRb.out hg)
  go_enter Tryd.func25, Tryd.ntmps25
  go_upto_region 1 with fail
  have H1 := Lib.hid (((HR.refl w).new #[.int .u64 x, .int .u64 y, .slice (some ⟨bs, os, none⟩) 32 cap] 44).new #[.int .u64 0, .int .u64 0, .int .u64 0] 41)
  simp only [World.size_alloc] at H1
  generalize (w.alloc (.cells #[.int .u64 x, .int .u64 y, .slice (some ⟨bs, os, none⟩) 32 cap] 44)).alloc (.cells #[.int .u64 0, .int .u64 0, .int .u64 0] 41) = w1 at H1 ⊢
  obtain ⟨b1, hb1⟩ : ∃ z, w.heap.size + 1 = z := ⟨_, rfl⟩
  obtain ⟨b0, hb0⟩ : ∃ z, w.heap.size = z := ⟨_, rfl⟩
  have H2 : Hid (HR w w1 [(b1, #[.int .u64 0, .int .u64 0, .int .u64 0], 41), (b0, #[.int .u64 x, .int .u64 y, .slice (some ⟨bs, os, none⟩) 32 cap], 44)]) := Lib.hid (by rw [← hb1, ← hb0]; exact H1.out)
  rw [hb1, hb0]
  have ho : Hid (w.heap.size ≤ b0 ∧ b0 < b1) := Lib.hid (by omega)
  replace hb0 := Lib.hid hb0
  replace hb1 := Lib.hid hb1
  clear H1
  have c_b1_0 := H2.out.cell (b := b1) (cs := #[.int .u64 0, .int .u64 0, .int .u64 0]) (t := 41) (by simp) 0 rfl
  have c_b1_1 := H2.out.cell (b := b1) (cs := #[.int .u64 0, .int .u64 0, .int .u64 0]) (t := 41) (by simp) 1 rfl
  have c_b1_2 := H2.out.cell (b := b1) (cs := #[.int .u64 0, .int .u64 0, .int .u64 0]) (t := 41) (by simp) 2 rfl
  have c_b0_0 := H2.out.cell (b := b0) (cs := #[.int .u64 x, .int .u64 y, .slice (some ⟨bs, os, none⟩) 32 cap]) (t := 44) (by simp) 0 rfl
  have c_b0_1 := H2.out.cell (b := b0) (cs := #[.int .u64 x, .int .u64 y, .slice (some ⟨bs, os, none⟩) 32 cap]) (t := 44) (by simp) 1 rfl
  have c_b0_2 := H2.out.cell (b := b0) (cs := #[.int .u64 x, .int .u64 y, .slice (some ⟨bs, os, none⟩) 32 cap]) (t := 44) (by simp) 2 rfl
  have f_b1_0 := H2.out.free (b := b1) (cs := #[.int .u64 0, .int .u64 0, .int .u64 0]) (t := 41) (by simp) 0
  have f_b1_1 := H2.out.free (b := b1) (cs := #[.int .u64 0, .int .u64 0, .int .u64 0]) (t := 41) (by simp) 1
  have f_b1_2 := H2.out.free (b := b1) (cs := #[.int .u64 0, .int .u64 0, .int .u64 0]) (t := 41) (by simp) 2
  go_wp2_with fail
  refine (cP.out _).mono ?_
  rintro e' w4 ⟨rfl, hb4⟩
  have H4 := Lib.hid (H2.out.next hb4)
  clear c_b1_0 c_b1_1 c_b1_2 c_b0_0 c_b0_1 c_b0_2 f_b1_0 f_b1_1 f_b1_2
  clear hb4 H2
  have c_b0_0 := H4.out.cell (b := b0) (cs := #[.int .u64 x, .int .u64 y, .slice (some ⟨bs, os, none⟩) 32 cap]) (t := 44) (by simp) 0 rfl
  have c_b0_1 := H4.out.cell (b := b0) (cs := #[.int .u64 x, .int .u64 y, .slice (some ⟨bs, os, none⟩) 32 cap]) (t := 44) (by simp) 1 rfl
  have c_b0_2 := H4.out.cell (b := b0) (cs := #[.int .u64 x, .int .u64 y, .slice (some ⟨bs, os, none⟩) 32 cap]) (t := 44) (by simp) 2 rfl
  go_upto_region 4 with fail
  clear c_b0_0 c_b0_1 c_b0_2
  refine wp_region_noPanic ?_
  refine wp_region_held_drew (S := fun wq => wq.cell? ⟨b0, 0, none⟩ = some (.int .u64 x) ∧ wq.cell? ⟨b0, 1, none⟩ = some (.int .u64 y) ∧ wq.cell? ⟨b0, 2, none⟩ = some (.slice (some ⟨bs, os, none⟩) 32 cap) ∧ HR w wq [(b1, #[.int .u64 0, .int .u64 0, .int .u64 0], 41), (b0, #[.int .u64 x, .int .u64 y, .slice (some ⟨bs, os, none⟩) 32 cap], 44)]) (by kernel_rfl) ?_ (fun hHeld => ?_)
  · have hq0 := HR.drew H4.out
    exact ⟨HR.cell hq0 (b := b0) (cs := #[.int .u64 x, .int .u64 y, .slice (some ⟨bs, os, none⟩) 32 cap]) (t := 44) (by simp) 0 rfl, HR.cell hq0 (b := b0) (cs := #[.int .u64 x, .int .u64 y, .slice (some ⟨bs, os, none⟩) 32 cap]) (t := 44) (by simp) 1 rfl, HR.cell hq0 (b := b0) (cs := #[.int .u64 x, .int .u64 y, .slice (some ⟨bs, os, none⟩) 32 cap]) (t := 44) (by simp) 2 rfl, hq0⟩
  refine takeH 0 (fun _ _ _ _ _ h => h) (by kernel_rfl) hHeld rfl (by kernel_rfl) (by rfl) (v := ?_) ?_ ?_
  rotate_left
  ((intro wz hz; (try dsimp only at hz); go_simp) <;> with_reducible rfl)
  try simp only [Act.put, List.setIfInBounds_toArray, List.set_cons_zero, List.set_cons_succ]
  refine takeH 1 (fun _ _ _ _ _ h => h) (by kernel_rfl) hHeld rfl (by kernel_rfl) (by rfl) (v := ?_) ?_ ?_
  rotate_left
  ((intro wz hz; (try dsimp only at hz); go_simp) <;> with_reducible rfl)
  try simp only [Act.put, List.setIfInBounds_toArray, List.set_cons_zero, List.set_cons_succ]
  refine takeH 2 (fun _ _ _ _ _ h => h) (by kernel_rfl) hHeld rfl (by kernel_rfl) (by rfl) (v := ?_) ?_ ?_
  rotate_left
  ((intro wz hz; (try dsimp only at hz); go_simp) <;> with_reducible rfl)
  try simp only [Act.put, List.setIfInBounds_toArray, List.set_cons_zero, List.set_cons_succ]
  refine takeH 3 (fun _ _ _ _ _ h => h) (by kernel_rfl) hHeld rfl (by kernel_rfl) (by rfl) (v := ?_) ?_ ?_
  rotate_left
  ((intro wz hz; (try dsimp only at hz); go_simp) <;> with_reducible rfl)
  try simp only [Act.put, List.setIfInBounds_toArray, List.set_cons_zero, List.set_cons_succ]
  refine takeH 4 (fun _ _ _ _ _ h => h) (by kernel_rfl) hHeld rfl (by kernel_rfl) (by rfl) (v := ?_) ?_ ?_
  rotate_left
  ((intro wz hz; (try dsimp only at hz); go_simp) <;> with_reducible rfl)
  try simp only [Act.put, List.setIfInBounds_toArray, List.set_cons_zero, List.set_cons_succ]
  refine stepH 5 (by kernel_rfl) rfl (by rfl) (fun K hK => ?_)
  go_simp
  refine (cS.out _).mono ?_
  rintro e wq' ⟨rfl, rfl⟩
  refine hK.out _ _ ?_ (fun hHeld => ?_)
  · exact ⟨HR.cell (HR.like hHeld.2.2.2 rfl rfl rfl rfl) (b := b0) (cs := #[.int .u64 x, .int .u64 y, .slice (some ⟨bs, os, none⟩) 32 cap]) (t := 44) (by simp) 0 rfl, HR.cell (HR.like hHeld.2.2.2 rfl rfl rfl rfl) (b := b0) (cs := #[.int .u64 x, .int .u64 y, .slice (some ⟨bs, os, none⟩) 32 cap]) (t := 44) (by simp) 1 rfl, HR.cell (HR.like hHeld.2.2.2 rfl rfl rfl rfl) (b := b0) (cs := #[.int .u64 x, .int .u64 y, .slice (some ⟨bs, os, none⟩) 32 cap]) (t := 44) (by simp) 2 rfl, (HR.like hHeld.2.2.2 rfl rfl rfl rfl)⟩
  clear hK K
  try simp only [Act.put, List.setIfInBounds_toArray, List.set_cons_zero, List.set_cons_succ]
  refine stepH 6 (by kernel_rfl) rfl (by rfl) (fun K hK => ?_)
  go_simp
  refine (cM.out _).mono ?_
  rintro e wc1 ⟨rfl, hbc1⟩
  have hrc1 := HR.next hHeld.2.2.2 hbc1
  refine hK.out _ _ ?_ (fun hHeld => ?_)
  · exact ⟨HR.cell hrc1 (b := b0) (cs := #[.int .u64 x, .int .u64 y, .slice (some ⟨bs, os, none⟩) 32 cap]) (t := 44) (by simp) 0 rfl, HR.cell hrc1 (b := b0) (cs := #[.int .u64 x, .int .u64 y, .slice (some ⟨bs, os, none⟩) 32 cap]) (t := 44) (by simp) 1 rfl, HR.cell hrc1 (b := b0) (cs := #[.int .u64 x, .int .u64 y, .slice (some ⟨bs, os, none⟩) 32 cap]) (t := 44) (by simp) 2 rfl, hrc1⟩
  clear hK K
  try simp only [Act.put, List.setIfInBounds_toArray, List.set_cons_zero, List.set_cons_succ]
  refine stepH 7 (by kernel_rfl) rfl (by rfl) (fun K hK => ?_)
  go_simp
  refine (cX.out _).mono ?_
  rintro e wc2 ⟨gk, ck, rfl, hOk, hbc2⟩
  have hrc2 := HR.next hHeld.2.2.2 hbc2
  refine hK.out _ _ ?_ (fun hHeld => ?_)
  · exact ⟨HR.cell hrc2 (b := b0) (cs := #[.int .u64 x, .int .u64 y, .slice (some ⟨bs, os, none⟩) 32 cap]) (t := 44) (by simp) 0 rfl, HR.cell hrc2 (b := b0) (cs := #[.int .u64 x, .int .u64 y, .slice (some ⟨bs, os, none⟩) 32 cap]) (t := 44) (by simp) 1 rfl, HR.cell hrc2 (b := b0) (cs := #[.int .u64 x, .int .u64 y, .slice (some ⟨bs, os, none⟩) 32 cap]) (t := 44) (by simp) 2 rfl, hrc2⟩
  clear hK K
  try simp only [Act.put, List.setIfInBounds_toArray, List.set_cons_zero, List.set_cons_succ]
  refine takeH 8 (fun _ _ _ _ _ h => h) (by kernel_rfl) hHeld rfl (by kernel_rfl) (by rfl) (v := ?_) ?_ ?_
  rotate_left
  ((intro wz hz; (try dsimp only at hz); go_simp) <;> with_reducible rfl)
  try simp only [Act.put, List.setIfInBounds_toArray, List.set_cons_zero, List.set_cons_succ]
  refine wpAnyH_done (by kernel_rfl) (NoPanic.normal ?_) _
  have H5 := Lib.hid hHeld.2.2.2
  have OK := Lib.hid hOk
  clear hOk hHeld H4
  go_upto_region 6 with fail
  have H6x := Lib.hid (HR.alloc H5.out (.cells (u8s z12) 5))
  have RZ0 := (show Row (wc2.alloc (.cells (u8s z12) 5)) wc2.heap.size (u8s z12) 5 from Row.new _ _ _)
  have OK6 := Lib.hid (OK.out.below (bAlloc (Below.refl _ wc2) (.cells (u8s z12) 5)))
  clear OK H5
  generalize wc2.alloc (.cells (u8s z12) 5) = w6 at H6x RZ0 OK6 ⊢
  obtain ⟨bz, hbz⟩ : ∃ z, wc2.heap.size = z := ⟨_, rfl⟩
  rw [hbz] at RZ0 ⊢
  replace hbz := Lib.hid hbz
  have RZ := Lib.hid RZ0
  have H6 : Hid (HR w w6 [(b1, #[.int .u64 0, .int .u64 0, .int .u64 0], 41), (b0, #[.int .u64 x, .int .u64 y, .slice (some ⟨bs, os, none⟩) 32 cap], 44)]) := H6x
  have hkl := own_lt OK6.out
  have hkb := own_blz OK6.out hK8.out.len
  have cB := Lib.hid (fun W (hw : Below w6.heap.size w6 W) => rBoth gk 0 ck bz 0 12 K z12 hK8.out hz12.out (.slice none 0 0) (.slice (some ⟨bs, os, none⟩) 16 cap) [] (S.take 16) W (Nat.lt_of_lt_of_le hkl hw.size) (Nat.lt_of_lt_of_le RZ.out.lt hw.size) (hkb.below hw hkl) (RZ.out.bl.below hw RZ.out.lt) (seg_nil _ _) ((ST.out.next (bThen H6.out.2 hw H6.out.2.size)).seg hT8.out (by omega)))
  have cC := Lib.hid (fun W (hw : Below w6.heap.size w6 W) => rStream gk 0 ck bz 0 12 K z12 hK8.out hz12.out (some ⟨bs, os, none⟩) 16 cap (S.take 16) hT8.out (by omega) (fun h => by cases h) W (Nat.lt_of_lt_of_le hkl hw.size) (Nat.lt_of_lt_of_le RZ.out.lt hw.size) (hkb.below hw hkl) (RZ.out.bl.below hw RZ.out.lt) (fun h => by rw [← hT8.out.len] at h; exact (ST.out.next (bThen H6.out.2 hw H6.out.2.size)).bl h))
  have hXs := Obol.strm_ref K z12 (S.take 16)
  rw [hT8.out.len] at hXs
  rw [hXs] at cC
  rw [hM.out] at cB
  have BR : Hid (∀ W, Below w6.heap.size w6 W → BL W bs (os + 16) Rr) := Lib.hid (fun W hW => BR0.out.1.below (bThen H6.out.2 hW H6.out.2.size) BR0.out.2)
  clear RZ0 H6x hkl hkb hXs
  refine wp_region_noPanic ?_
  refine wp_region_held_drew (S := fun wq => wq.cell? ⟨b0, 0, none⟩ = some (.int .u64 x) ∧ wq.cell? ⟨b0, 1, none⟩ = some (.int .u64 y) ∧ wq.cell? ⟨b0, 2, none⟩ = some (.slice (some ⟨bs, os, none⟩) 32 cap) ∧ (convert 42 9 (.slice (some ⟨bs, os + 16, none⟩) 16 (cap - 16))).run Tryd.prog wq = .ok (.string (strB Rr)) wq ∧ HR w wq [(b1, #[.int .u64 0, .int .u64 0, .int .u64 0], 41), (b0, #[.int .u64 x, .int .u64 y, .slice (some ⟨bs, os, none⟩) 32 cap], 44)]) (by kernel_rfl) ?_ (fun hHeld => ?_)
  · have hq0 := HR.drew H6.out
    exact ⟨HR.cell hq0 (b := b0) (cs := #[.int .u64 x, .int .u64 y, .slice (some ⟨bs, os, none⟩) 32 cap]) (t := 44) (by simp) 0 rfl, HR.cell hq0 (b := b0) (cs := #[.int .u64 x, .int .u64 y, .slice (some ⟨bs, os, none⟩) 32 cap]) (t := 44) (by simp) 1 rfl, HR.cell hq0 (b := b0) (cs := #[.int .u64 x, .int .u64 y, .slice (some ⟨bs, os, none⟩) 32 cap]) (t := 44) (by simp) 2 rfl, (conv8 (BR.out _ (bDrew (Below.refl _ _))) hRl.out), hq0⟩
  refine takeH 0 (fun _ _ _ _ _ h => h) (by kernel_rfl) hHeld rfl (by kernel_rfl) (by rfl) (v := ?_) ?_ ?_
  rotate_left
  ((intro wz hz; (try dsimp only at hz); go_simp) <;> with_reducible rfl)
  try simp only [Act.put, List.setIfInBounds_toArray, List.set_cons_zero, List.set_cons_succ]
  refine takeH 1 (fun _ _ _ _ _ h => h) (by kernel_rfl) hHeld rfl (by kernel_rfl) (by rfl) (v := ?_) ?_ ?_
  rotate_left
  ((intro wz hz; (try dsimp only at hz); go_simp) <;> with_reducible rfl)
  try simp only [Act.put, List.setIfInBounds_toArray, List.set_cons_zero, List.set_cons_succ]
  refine takeH 2 (fun _ _ _ _ _ h => h) (by kernel_rfl) hHeld rfl (by kernel_rfl) (by rfl) (v := ?_) ?_ ?_
  rotate_left
  ((intro wz hz; (try dsimp only at hz); go_simp) <;> with_reducible rfl)
  try simp only [Act.put, List.setIfInBounds_toArray, List.set_cons_zero, List.set_cons_succ]
  refine takeH 3 (fun _ _ _ _ _ h => h) (by kernel_rfl) hHeld rfl (by kernel_rfl) (by rfl) (v := ?_) ?_ ?_
  rotate_left
  ((intro wz hz; (try dsimp only at hz); go_simp) <;> with_reducible rfl)
  try simp only [Act.put, List.setIfInBounds_toArray, List.set_cons_zero, List.set_cons_succ]
  refine takeH 4 (fun _ _ _ _ _ h => h) (by kernel_rfl) hHeld rfl (by kernel_rfl) (by rfl) (v := ?_) ?_ ?_
  rotate_left
  ((intro wz hz; (try dsimp only at hz); go_simp) <;> with_reducible rfl)
  try simp only [Act.put, List.setIfInBounds_toArray, List.set_cons_zero, List.set_cons_succ]
  refine takeH 7 (fun _ _ _ _ _ h => h) (by kernel_rfl) hHeld rfl (by kernel_rfl) (by rfl) (v := ?_) ?_ ?_
  rotate_left
  ((intro wz hz; (try dsimp only at hz); go_simp) <;> with_reducible rfl)
  try simp only [Act.put, List.setIfInBounds_toArray, List.set_cons_zero, List.set_cons_succ]
  refine takeH 8 (fun _ _ _ _ _ h => h) (by kernel_rfl) hHeld rfl (by kernel_rfl) (by rfl) (v := ?_) ?_ ?_
  rotate_left
  ((intro wz hz; (try dsimp only at hz); go_simp) <;> with_reducible rfl)
  try simp only [Act.put, List.setIfInBounds_toArray, List.set_cons_zero, List.set_cons_succ]
  refine takeH 9 (fun _ _ _ _ _ h => h) (by kernel_rfl) hHeld rfl (by kernel_rfl) (by rfl) (v := ?_) ?_ ?_
  rotate_left
  ((intro wz hz; (try dsimp only at hz); go_simp) <;> with_reducible rfl)
  try simp only [Act.put, List.setIfInBounds_toArray, List.set_cons_zero, List.set_cons_succ]
  refine takeH 10 (fun _ _ _ _ _ h => h) (by kernel_rfl) hHeld rfl (by kernel_rfl) (by rfl) (v := ?_) ?_ ?_
  rotate_left
  ((intro wz hz; (try dsimp only at hz); go_simp) <;> with_reducible rfl)
  try simp only [Act.put, List.setIfInBounds_toArray, List.set_cons_zero, List.set_cons_succ]
  refine stepH 5 (by kernel_rfl) rfl (by rfl) (fun K hK => ?_)
  go_simp
  refine (cB.out _ (bDrew (Below.refl _ _))).mono ?_
  rintro e wc1 ⟨g4, rfl, hR4, hg4, hbc1⟩
  have hrc1 := HR.next hHeld.2.2.2.2 hbc1
  have hcv := conv8 (cap := 16) (n := 16) hR4.bl hMl.out
  refine hK.out _ _ ?_ (fun hHeld => ?_)
  · exact ⟨HR.cell hrc1 (b := b0) (cs := #[.int .u64 x, .int .u64 y, .slice (some ⟨bs, os, none⟩) 32 cap]) (t := 44) (by simp) 0 rfl, HR.cell hrc1 (b := b0) (cs := #[.int .u64 x, .int .u64 y, .slice (some ⟨bs, os, none⟩) 32 cap]) (t := 44) (by simp) 1 rfl, HR.cell hrc1 (b := b0) (cs := #[.int .u64 x, .int .u64 y, .slice (some ⟨bs, os, none⟩) 32 cap]) (t := 44) (by simp) 2 rfl, (conv8 (BR.out _ (bThen (bDrew (Below.refl w6.heap.size w6)) hbc1 (bDrew (Below.refl w6.heap.size w6)).size)) hRl.out), hrc1⟩
  clear hK K
  try simp only [Act.put, List.setIfInBounds_toArray, List.set_cons_zero, List.set_cons_succ]
  refine stepH 6 (by kernel_rfl) rfl (by rfl) (fun K hK => ?_)
  go_simp
  refine hK.out _ _ ?_ (fun hHeld => ?_)
  · exact hHeld
  clear hK K
  try simp only [Act.put, List.setIfInBounds_toArray, List.set_cons_zero, List.set_cons_succ]
  refine takeH 11 (fun _ _ _ _ _ h => h) (by kernel_rfl) hHeld rfl (by kernel_rfl) (by rfl) (v := .bool true) ?_ ?_
  · intro wz hz
    (try dsimp only at hz)
    go_simp
    exact beq_eq_false_iff_ne.1 hNe.out
  try simp only [Act.put, List.setIfInBounds_toArray, List.set_cons_zero, List.set_cons_succ]
  refine wpAnyH_done (by kernel_rfl) (NoPanic.normal ?_) _
  have H8 := Lib.hid hHeld.2.2.2.2
  clear hHeld hcv BR cB cC
  have c_b1_0 := H8.out.cell (b := b1) (cs := #[.int .u64 0, .int .u64 0, .int .u64 0]) (t := 41) (by simp) 0 rfl
  have c_b1_1 := H8.out.cell (b := b1) (cs := #[.int .u64 0, .int .u64 0, .int .u64 0]) (t := 41) (by simp) 1 rfl
  have c_b1_2 := H8.out.cell (b := b1) (cs := #[.int .u64 0, .int .u64 0, .int .u64 0]) (t := 41) (by simp) 2 rfl
  have f_b1_0 := H8.out.free (b := b1) (cs := #[.int .u64 0, .int .u64 0, .int .u64 0]) (t := 41) (by simp) 0
  have f_b1_1 := H8.out.free (b := b1) (cs := #[.int .u64 0, .int .u64 0, .int .u64 0]) (t := 41) (by simp) 1
  have f_b1_2 := H8.out.free (b := b1) (cs := #[.int .u64 0, .int .u64 0, .int .u64 0]) (t := 41) (by simp) 2
  have B4 := Lib.hid (bSet (bSet (bSet H8.out.2 (b := b1) (o := 0) (u := .int .u64 0) (by have := ho.out; omega)) (b := b1) (o := 1) (u := .int .u64 0) (by have := ho.out; omega)) (b := b1) (o := 2) (u := .int .u64 0) (by have := ho.out; omega))
  have hR := (H8.out.row (b := b1) (cs := #[.int .u64 0, .int .u64 0, .int .u64 0]) (t := 41) (by simp)).set3 (v0 := .int .u64 0) (v1 := .int .u64 0) (v2 := .int .u64 0)
  have s0 := hR.cell 0 rfl
  have s1 := hR.cell 1 rfl
  have s2 := hR.cell 2 rfl
  clear hR
  go_wp2_with fail
  refine bodyPost_ret (v := .tuple #[.agg #[.int .u64 0, .int .u64 0, .int .u64 0], .bool false]) (by simp [results, Tryd.results25, go_sem, s0, s1, s2]) rfl ⟨rfl, B4.out⟩

end Go.Proofs.YtallfmiikjmgaaaDoor
/- Walks: the reference of layer 17: a sealed note opened as it was. -/
namespace Go.Proofs.YtallfmiikjmgaaaDoor
open Go.RowKit

set_option maxHeartbeats 1000000 in
theorem r2Number16 (b o cap : Nat) (L : List Nat) (H0 : B8 8 L) (w : World) (hc0 : BL w b o L) :
    Calls Tryd.prog 49 #[.slice (some ⟨b, o, none⟩) 16 cap] w fun e w' => e = .returned (.int .u64 ((Obol.num8 L : Nat) : Int)) ∧ w' = w := by
  have H := Lib.hid H0
  have C := Lib.hid hc0
  clear hc0 H0
  go_enter Tryd.func49, Tryd.ntmps49
  go_wp2
  go_loopw [3, 4] (fun q1 q2 wr => ∃ N i : Int, q1 = .int .u64 N ∧ q2 = .int .i64 i ∧ Hid (ReadI L N i) ∧ wr = w) (fun _ q2 _ => (8 - intOf q2).toNat)
  case atStart => exact ⟨0, 0, rfl, rfl, Lib.hid ⟨by omega, by omega, by omega, by decide, rfl⟩, rfl⟩
  case round =>
    obtain ⟨N, i, rfl, rfl, HI, rfl⟩ := hrel
    have i0 := HI.out.2.1
    have i1 := HI.out.2.2.1
    by_cases hi : i < 8
    · obtain ⟨n0, n1⟩ := HI.out.bound hi
      obtain ⟨v, hv, he, v0, v1⟩ := C.out.at H.out i0 hi
      have HN := Lib.hid (HI.out.step H.out hi he v0 v1)
      have hi16 : i < 16 := by omega
      clear he
      go_wp2
      exact ⟨⟨_, _, rfl, rfl, HN, trivial⟩, by simp [intOf]; omega⟩
    · obtain rfl : i = 8 := by omega
      have hN := Lib.hid (HI.out.done H.out)
      clear HI
      go_wp2
      go_ret
      exact ⟨ret_u64 hN.out, rfl⟩
set_option maxRecDepth 8000 in
set_option maxHeartbeats 4000000 in
theorem r17Open (k x y : Int) (k0 : 0 ≤ k) (k2 : k ≤ 18446744073709551615) (x0 : 0 ≤ x) (y0 : 0 ≤ y) (xR : x < 288230376287764481) (yR : y < 288230376287764481) (hEn : Obol.isN (x.toNat, y.toNat) = true) (ao : Option Addr) (cap : Nat) (S : List Nat) (HS : B8 32 S) (hg : Obol.bothL (secL (x.toNat, y.toNat) (Obol.smulN (x.toNat, y.toNat) (Obol.scN k.toNat))) z12 [] (S.take 16) = S.drop 16) (hP : ∀ W, Calls Tryd.prog 21 #[edV x y] W fun e' w' => e' = .returned (.bool true) ∧ Below W.heap.size W w') (w : World) (hS : SlI w.heap.size w ao cap S) :
    Calls Tryd.prog 25 #[.int .u64 k, .agg #[.int .u64 x, .int .u64 y, .slice ao 32 cap]] w fun e' w' => ((Obol.num8 ((Obol.strm (secL (x.toNat, y.toNat) (Obol.smulN (x.toNat, y.toNat) (Obol.scN k.toNat))) z12 (S.take 16)).take 8) < 4294967296 ∧ Obol.num8 ((Obol.strm (secL (x.toNat, y.toNat) (Obol.smulN (x.toNat, y.toNat) (Obol.scN k.toNat))) z12 (S.take 16)).drop 8) < 288230376287764481) ∧ e' = .returned (.tuple #[ntV ((Obol.num8 ((Obol.strm (secL (x.toNat, y.toNat) (Obol.smulN (x.toNat, y.toNat) (Obol.scN k.toNat))) z12 (S.take 16)).take 8) : Nat) : Int) ((Obol.twoN k.toNat 2 : Nat) : Int) ((Obol.num8 ((Obol.strm (secL (x.toNat, y.toNat) (Obol.smulN (x.toNat, y.toNat) (Obol.scN k.toNat))) z12 (S.take 16)).drop 8) : Nat) : Int), .bool true]) ∨ ¬ (Obol.num8 ((Obol.strm (secL (x.toNat, y.toNat) (Obol.smulN (x.toNat, y.toNat) (Obol.scN k.toNat))) z12 (S.take 16)).take 8) < 4294967296 ∧ Obol.num8 ((Obol.strm (secL (x.toNat, y.toNat) (Obol.smulN (x.toNat, y.toNat) (Obol.scN k.toNat))) z12 (S.take 16)).drop 8) < 288230376287764481) ∧ e' = .returned (.tuple #[ntV 0 0 0, .bool false])) ∧ Below w.heap.size w w' := by
  have cO := fun w => r17Owner k k0 w
  have ht1 : Obol.twoN k.toNat 2 < 288230376287764481 := Nat.lt_of_lt_of_eq (Obol.twoN_lt _ _) Obol.R_def
  obtain ⟨t, ht⟩ : ∃ t : Int, ((Obol.twoN k.toNat 2 : Nat) : Int) = t := ⟨_, rfl⟩
  rw [ht] at cO ⊢
  have t0 : 0 ≤ t := by omega
  have t1 : t < 288230376287764481 := by omega
  clear ht ht1
  replace cO := Lib.hid cO
  have cP := Lib.hid hP
  have cS := fun w => r17Scalar k k0 w
  have cM := fun W => r7MulN x y ((Obol.scN k.toNat : Nat) : Int) x0 y0 (by omega) (by have := scN_lt k.toNat; omega) hEn W
  obtain ⟨mx, my, mx0, my0, mxR, myR, hmx, hmy, -⟩ := mul_pt (x.toNat, y.toNat) (Obol.scN k.toNat)
  simp only [Int.toNat_natCast] at cM
  rw [hmx, hmy] at cM
  have cX := fun W => r17Secret x y mx my x0 y0 mx0 my0 xR yR mxR myR W
  have e2 : (mx.toNat, my.toNat) = Obol.smulN (x.toNat, y.toNat) (Obol.scN k.toNat) := Prod.ext (by show mx.toNat = _; omega) (by show my.toNat = _; omega)
  rw [e2] at cX
  have hK8 := Lib.hid (secL_b8 (x.toNat, y.toNat) (Obol.smulN (x.toNat, y.toNat) (Obol.scN k.toNat)))
  obtain ⟨K, hK⟩ : ∃ l, secL (x.toNat, y.toNat) (Obol.smulN (x.toNat, y.toNat) (Obol.scN k.toNat)) = l := ⟨_, rfl⟩
  rw [hK] at cX hK8 hg ⊢
  obtain ⟨s, hs⟩ : ∃ s : Int, ((Obol.scN k.toNat : Nat) : Int) = s := ⟨_, rfl⟩
  rw [hs] at cM cS
  obtain ⟨bs, os, rfl, hbs, hBS, hcap⟩ := hS.key HS (by omega)
  have hc3 := hS.cap
  have hz12 : Hid (B8 12 z12) := Lib.hid (cp0_b8 12)
  have mk12 : ∀ W, (Instr.makeSlice 42 (.int .i64 12) (.int .i64 12)).run Tryd.prog W = .ok (.slice (some ⟨W.heap.size, 0, none⟩) 12 12) (W.alloc (.cells (u8s z12) 5)) := fun W => make8 12 (by omega) W
  have hTl : (S.take 16).length = 16 := by rw [List.length_take, HS.len]; rfl
  have hT8 : Hid (B8 16 (S.take 16)) := Lib.hid ⟨hTl, fun i => by rw [Obol.getD_take]; split; exact HS.lt i; decide⟩
  have ST : Hid (SlI w.heap.size w (some ⟨bs, os, none⟩) cap (S.take 16)) := Lib.hid ⟨by rw [hTl]; omega, hc3, (fun h => by cases h), fun _ => ⟨bs, os, rfl, hbs, fun i hi => by rw [hTl] at hi; rw [hBS i (by rw [HS.len]; omega), Obol.getD_take, if_pos hi]⟩⟩
  have hRl : Hid ((S.drop 16).length = 16) := Lib.hid (by rw [List.length_drop, HS.len])
  have hBR : BL w bs (os + 16) (S.drop 16) := fun i hi => by
    rw [hRl.out] at hi
    rw [Nat.add_assoc, hBS (16 + i) (by rw [HS.len]; omega), Obol.getD_drop]
  have BR0 := Lib.hid (⟨hBR, hbs⟩ : BL w bs (os + 16) (S.drop 16) ∧ bs < w.heap.size)
  have hMl := Lib.hid (Obol.bothL_len K z12 [] (S.take 16))
  have hMb := Lib.hid (Obol.bothL_lt K z12 [] (S.take 16))
  have hRb : Hid (∀ i, (S.drop 16).getD i 0 < 256) := Lib.hid (fun i => by rw [Obol.getD_drop]; exact HS.lt _)
  obtain ⟨M, hM⟩ : ∃ l, Obol.bothL K z12 [] (S.take 16) = l := ⟨_, rfl⟩
  obtain ⟨Rr, hRr⟩ : ∃ l, S.drop 16 = l := ⟨_, rfl⟩
  rw [hM] at hMl hMb hg
  rw [hRr] at hRl BR0 hg hRb
  have hc16 : ¬ cap = 16 := by omega
  have hnc : (16 : Int) ≤ (cap : Int) := by omega
  have hnc2 : 16 ≤ cap := by omega
  replace cS := Lib.hid cS
  replace cM := Lib.hid cM
  replace cX := Lib.hid cX
  replace hK := Lib.hid hK
  replace hM := Lib.hid hM
  replace hRr := Lib.hid hRr
  replace HS := Lib.hid HS
  clear hP hmx hmy hEn e2 hs mx0 my0 mxR myR hbs hBS hBR hTl hS k0
  obtain rfl : M = Rr := hg
  have T8 : Hid (B8 16 (Obol.strm K z12 (S.take 16))) := Lib.hid ⟨by rw [Obol.strm_len, hT8.out.len], Obol.strm_lt K z12 hT8.out.lt⟩
  obtain ⟨T, hT⟩ : ∃ l, Obol.strm K z12 (S.take 16) = l := ⟨_, rfl⟩
  rw [hT] at T8 ⊢
  have hA1 := Obol.num8_lt (b8_t8 T8.out).all (b8_t8 T8.out).len
  have hB1 := Obol.num8_lt (b8_d8 T8.out).all (b8_d8 T8.out).len
  have hN1 := fun W b (h : Row W b (u8s T) 5) => r2Number16 b 0 16 (T.take 8) (b8_t8 T8.out) W (fun i hi => by rw [(b8_t8 T8.out).len] at hi; rw [Obol.getD_take, if_pos hi]; exact h.bl i (by rw [T8.out.len]; omega))
  have hN2 := fun W b (h : Row W b (u8s T) 5) => r2Number b 8 8 (T.drop 8) (b8_d8 T8.out) W (fun i hi => by rw [(b8_d8 T8.out).len] at hi; rw [Obol.getD_drop]; have h2 := h.bl (8 + i) (by rw [T8.out.len]; omega); rwa [Nat.zero_add] at h2)
  obtain ⟨A, hA⟩ : ∃ z : Int, ((Obol.num8 (T.take 8) : Nat) : Int) = z := ⟨_, rfl⟩
  obtain ⟨B, hB⟩ : ∃ z : Int, ((Obol.num8 (T.drop 8) : Nat) : Int) = z := ⟨_, rfl⟩
  have hback : Hid ((Obol.num8 (T.take 8) < 4294967296 ∧ Obol.num8 (T.drop 8) < 288230376287764481) → mayI A t B) := Lib.hid (fun h => ⟨by omega, t1, by omega⟩)
  have AB : Hid ((((Obol.num8 (T.take 8) : Nat) : Int) = A) ∧ (((Obol.num8 (T.drop 8) : Nat) : Int) = B) ∧ (A < 4294967296 → B < 288230376287764481 → (Obol.num8 (T.take 8) < 4294967296 ∧ Obol.num8 (T.drop 8) < 288230376287764481))) := Lib.hid ⟨hA, hB, fun h1 h2 => ⟨by omega, by omega⟩⟩
  have A0 : 0 ≤ A := by omega
  have B0 : 0 ≤ B := by omega
  have A1 : A ≤ 18446744073709551615 := by omega
  have B1 : B ≤ 18446744073709551615 := by omega
  simp only [hA] at hN1
  simp only [hB] at hN2
  replace hN1 := Lib.hid hN1
  replace hN2 := Lib.hid hN2
  replace hT := Lib.hid hT
  clear hA hB hA1 hB1
  go_enter Tryd.func25, Tryd.ntmps25
  go_upto_region 1 with fail
  have H1 := Lib.hid (((HR.refl w).new #[.int .u64 x, .int .u64 y, .slice (some ⟨bs, os, none⟩) 32 cap] 44).new #[.int .u64 0, .int .u64 0, .int .u64 0] 41)
  simp only [World.size_alloc] at H1
  generalize (w.alloc (.cells #[.int .u64 x, .int .u64 y, .slice (some ⟨bs, os, none⟩) 32 cap] 44)).alloc (.cells #[.int .u64 0, .int .u64 0, .int .u64 0] 41) = w1 at H1 ⊢
  obtain ⟨b1, hb1⟩ : ∃ z, w.heap.size + 1 = z := ⟨_, rfl⟩
  obtain ⟨b0, hb0⟩ : ∃ z, w.heap.size = z := ⟨_, rfl⟩
  have H2 : Hid (HR w w1 [(b1, #[.int .u64 0, .int .u64 0, .int .u64 0], 41), (b0, #[.int .u64 x, .int .u64 y, .slice (some ⟨bs, os, none⟩) 32 cap], 44)]) := Lib.hid (by rw [← hb1, ← hb0]; exact H1.out)
  rw [hb1, hb0]
  have ho : Hid (w.heap.size ≤ b0 ∧ b0 < b1) := Lib.hid (by omega)
  replace hb0 := Lib.hid hb0
  replace hb1 := Lib.hid hb1
  clear H1
  have c_b1_0 := H2.out.cell (b := b1) (cs := #[.int .u64 0, .int .u64 0, .int .u64 0]) (t := 41) (by simp) 0 rfl
  have c_b1_1 := H2.out.cell (b := b1) (cs := #[.int .u64 0, .int .u64 0, .int .u64 0]) (t := 41) (by simp) 1 rfl
  have c_b1_2 := H2.out.cell (b := b1) (cs := #[.int .u64 0, .int .u64 0, .int .u64 0]) (t := 41) (by simp) 2 rfl
  have c_b0_0 := H2.out.cell (b := b0) (cs := #[.int .u64 x, .int .u64 y, .slice (some ⟨bs, os, none⟩) 32 cap]) (t := 44) (by simp) 0 rfl
  have c_b0_1 := H2.out.cell (b := b0) (cs := #[.int .u64 x, .int .u64 y, .slice (some ⟨bs, os, none⟩) 32 cap]) (t := 44) (by simp) 1 rfl
  have c_b0_2 := H2.out.cell (b := b0) (cs := #[.int .u64 x, .int .u64 y, .slice (some ⟨bs, os, none⟩) 32 cap]) (t := 44) (by simp) 2 rfl
  have f_b1_0 := H2.out.free (b := b1) (cs := #[.int .u64 0, .int .u64 0, .int .u64 0]) (t := 41) (by simp) 0
  have f_b1_1 := H2.out.free (b := b1) (cs := #[.int .u64 0, .int .u64 0, .int .u64 0]) (t := 41) (by simp) 1
  have f_b1_2 := H2.out.free (b := b1) (cs := #[.int .u64 0, .int .u64 0, .int .u64 0]) (t := 41) (by simp) 2
  go_wp2_with fail
  refine (cP.out _).mono ?_
  rintro e' w4 ⟨rfl, hb4⟩
  have H4 := Lib.hid (H2.out.next hb4)
  clear c_b1_0 c_b1_1 c_b1_2 c_b0_0 c_b0_1 c_b0_2 f_b1_0 f_b1_1 f_b1_2
  clear hb4 H2
  have c_b0_0 := H4.out.cell (b := b0) (cs := #[.int .u64 x, .int .u64 y, .slice (some ⟨bs, os, none⟩) 32 cap]) (t := 44) (by simp) 0 rfl
  have c_b0_1 := H4.out.cell (b := b0) (cs := #[.int .u64 x, .int .u64 y, .slice (some ⟨bs, os, none⟩) 32 cap]) (t := 44) (by simp) 1 rfl
  have c_b0_2 := H4.out.cell (b := b0) (cs := #[.int .u64 x, .int .u64 y, .slice (some ⟨bs, os, none⟩) 32 cap]) (t := 44) (by simp) 2 rfl
  go_upto_region 4 with fail
  clear c_b0_0 c_b0_1 c_b0_2
  refine wp_region_noPanic ?_
  refine wp_region_held_drew (S := fun wq => wq.cell? ⟨b0, 0, none⟩ = some (.int .u64 x) ∧ wq.cell? ⟨b0, 1, none⟩ = some (.int .u64 y) ∧ wq.cell? ⟨b0, 2, none⟩ = some (.slice (some ⟨bs, os, none⟩) 32 cap) ∧ HR w wq [(b1, #[.int .u64 0, .int .u64 0, .int .u64 0], 41), (b0, #[.int .u64 x, .int .u64 y, .slice (some ⟨bs, os, none⟩) 32 cap], 44)]) (by kernel_rfl) ?_ (fun hHeld => ?_)
  · have hq0 := HR.drew H4.out
    exact ⟨HR.cell hq0 (b := b0) (cs := #[.int .u64 x, .int .u64 y, .slice (some ⟨bs, os, none⟩) 32 cap]) (t := 44) (by simp) 0 rfl, HR.cell hq0 (b := b0) (cs := #[.int .u64 x, .int .u64 y, .slice (some ⟨bs, os, none⟩) 32 cap]) (t := 44) (by simp) 1 rfl, HR.cell hq0 (b := b0) (cs := #[.int .u64 x, .int .u64 y, .slice (some ⟨bs, os, none⟩) 32 cap]) (t := 44) (by simp) 2 rfl, hq0⟩
  refine takeH 0 (fun _ _ _ _ _ h => h) (by kernel_rfl) hHeld rfl (by kernel_rfl) (by rfl) (v := ?_) ?_ ?_
  rotate_left
  ((intro wz hz; (try dsimp only at hz); go_simp) <;> with_reducible rfl)
  try simp only [Act.put, List.setIfInBounds_toArray, List.set_cons_zero, List.set_cons_succ]
  refine takeH 1 (fun _ _ _ _ _ h => h) (by kernel_rfl) hHeld rfl (by kernel_rfl) (by rfl) (v := ?_) ?_ ?_
  rotate_left
  ((intro wz hz; (try dsimp only at hz); go_simp) <;> with_reducible rfl)
  try simp only [Act.put, List.setIfInBounds_toArray, List.set_cons_zero, List.set_cons_succ]
  refine takeH 2 (fun _ _ _ _ _ h => h) (by kernel_rfl) hHeld rfl (by kernel_rfl) (by rfl) (v := ?_) ?_ ?_
  rotate_left
  ((intro wz hz; (try dsimp only at hz); go_simp) <;> with_reducible rfl)
  try simp only [Act.put, List.setIfInBounds_toArray, List.set_cons_zero, List.set_cons_succ]
  refine takeH 3 (fun _ _ _ _ _ h => h) (by kernel_rfl) hHeld rfl (by kernel_rfl) (by rfl) (v := ?_) ?_ ?_
  rotate_left
  ((intro wz hz; (try dsimp only at hz); go_simp) <;> with_reducible rfl)
  try simp only [Act.put, List.setIfInBounds_toArray, List.set_cons_zero, List.set_cons_succ]
  refine takeH 4 (fun _ _ _ _ _ h => h) (by kernel_rfl) hHeld rfl (by kernel_rfl) (by rfl) (v := ?_) ?_ ?_
  rotate_left
  ((intro wz hz; (try dsimp only at hz); go_simp) <;> with_reducible rfl)
  try simp only [Act.put, List.setIfInBounds_toArray, List.set_cons_zero, List.set_cons_succ]
  refine stepH 5 (by kernel_rfl) rfl (by rfl) (fun K hK => ?_)
  go_simp
  refine (cS.out _).mono ?_
  rintro e wq' ⟨rfl, rfl⟩
  refine hK.out _ _ ?_ (fun hHeld => ?_)
  · exact ⟨HR.cell (HR.like hHeld.2.2.2 rfl rfl rfl rfl) (b := b0) (cs := #[.int .u64 x, .int .u64 y, .slice (some ⟨bs, os, none⟩) 32 cap]) (t := 44) (by simp) 0 rfl, HR.cell (HR.like hHeld.2.2.2 rfl rfl rfl rfl) (b := b0) (cs := #[.int .u64 x, .int .u64 y, .slice (some ⟨bs, os, none⟩) 32 cap]) (t := 44) (by simp) 1 rfl, HR.cell (HR.like hHeld.2.2.2 rfl rfl rfl rfl) (b := b0) (cs := #[.int .u64 x, .int .u64 y, .slice (some ⟨bs, os, none⟩) 32 cap]) (t := 44) (by simp) 2 rfl, (HR.like hHeld.2.2.2 rfl rfl rfl rfl)⟩
  clear hK K
  try simp only [Act.put, List.setIfInBounds_toArray, List.set_cons_zero, List.set_cons_succ]
  refine stepH 6 (by kernel_rfl) rfl (by rfl) (fun K hK => ?_)
  go_simp
  refine (cM.out _).mono ?_
  rintro e wc1 ⟨rfl, hbc1⟩
  have hrc1 := HR.next hHeld.2.2.2 hbc1
  refine hK.out _ _ ?_ (fun hHeld => ?_)
  · exact ⟨HR.cell hrc1 (b := b0) (cs := #[.int .u64 x, .int .u64 y, .slice (some ⟨bs, os, none⟩) 32 cap]) (t := 44) (by simp) 0 rfl, HR.cell hrc1 (b := b0) (cs := #[.int .u64 x, .int .u64 y, .slice (some ⟨bs, os, none⟩) 32 cap]) (t := 44) (by simp) 1 rfl, HR.cell hrc1 (b := b0) (cs := #[.int .u64 x, .int .u64 y, .slice (some ⟨bs, os, none⟩) 32 cap]) (t := 44) (by simp) 2 rfl, hrc1⟩
  clear hK K
  try simp only [Act.put, List.setIfInBounds_toArray, List.set_cons_zero, List.set_cons_succ]
  refine stepH 7 (by kernel_rfl) rfl (by rfl) (fun K hK => ?_)
  go_simp
  refine (cX.out _).mono ?_
  rintro e wc2 ⟨gk, ck, rfl, hOk, hbc2⟩
  have hrc2 := HR.next hHeld.2.2.2 hbc2
  refine hK.out _ _ ?_ (fun hHeld => ?_)
  · exact ⟨HR.cell hrc2 (b := b0) (cs := #[.int .u64 x, .int .u64 y, .slice (some ⟨bs, os, none⟩) 32 cap]) (t := 44) (by simp) 0 rfl, HR.cell hrc2 (b := b0) (cs := #[.int .u64 x, .int .u64 y, .slice (some ⟨bs, os, none⟩) 32 cap]) (t := 44) (by simp) 1 rfl, HR.cell hrc2 (b := b0) (cs := #[.int .u64 x, .int .u64 y, .slice (some ⟨bs, os, none⟩) 32 cap]) (t := 44) (by simp) 2 rfl, hrc2⟩
  clear hK K
  try simp only [Act.put, List.setIfInBounds_toArray, List.set_cons_zero, List.set_cons_succ]
  refine takeH 8 (fun _ _ _ _ _ h => h) (by kernel_rfl) hHeld rfl (by kernel_rfl) (by rfl) (v := ?_) ?_ ?_
  rotate_left
  ((intro wz hz; (try dsimp only at hz); go_simp) <;> with_reducible rfl)
  try simp only [Act.put, List.setIfInBounds_toArray, List.set_cons_zero, List.set_cons_succ]
  refine wpAnyH_done (by kernel_rfl) (NoPanic.normal ?_) _
  have H5 := Lib.hid hHeld.2.2.2
  have OK := Lib.hid hOk
  clear hOk hHeld H4
  go_upto_region 6 with fail
  have H6x := Lib.hid (HR.alloc H5.out (.cells (u8s z12) 5))
  have RZ0 := (show Row (wc2.alloc (.cells (u8s z12) 5)) wc2.heap.size (u8s z12) 5 from Row.new _ _ _)
  have OK6 := Lib.hid (OK.out.below (bAlloc (Below.refl _ wc2) (.cells (u8s z12) 5)))
  clear OK H5
  generalize wc2.alloc (.cells (u8s z12) 5) = w6 at H6x RZ0 OK6 ⊢
  obtain ⟨bz, hbz⟩ : ∃ z, wc2.heap.size = z := ⟨_, rfl⟩
  rw [hbz] at RZ0 ⊢
  replace hbz := Lib.hid hbz
  have RZ := Lib.hid RZ0
  have H6 : Hid (HR w w6 [(b1, #[.int .u64 0, .int .u64 0, .int .u64 0], 41), (b0, #[.int .u64 x, .int .u64 y, .slice (some ⟨bs, os, none⟩) 32 cap], 44)]) := H6x
  have hkl := own_lt OK6.out
  have hkb := own_blz OK6.out hK8.out.len
  have cB := Lib.hid (fun W (hw : Below w6.heap.size w6 W) => rBoth gk 0 ck bz 0 12 K z12 hK8.out hz12.out (.slice none 0 0) (.slice (some ⟨bs, os, none⟩) 16 cap) [] (S.take 16) W (Nat.lt_of_lt_of_le hkl hw.size) (Nat.lt_of_lt_of_le RZ.out.lt hw.size) (hkb.below hw hkl) (RZ.out.bl.below hw RZ.out.lt) (seg_nil _ _) ((ST.out.next (bThen H6.out.2 hw H6.out.2.size)).seg hT8.out (by omega)))
  have cC := Lib.hid (fun W (hw : Below w6.heap.size w6 W) => rStream gk 0 ck bz 0 12 K z12 hK8.out hz12.out (some ⟨bs, os, none⟩) 16 cap (S.take 16) hT8.out (by omega) (fun h => by cases h) W (Nat.lt_of_lt_of_le hkl hw.size) (Nat.lt_of_lt_of_le RZ.out.lt hw.size) (hkb.below hw hkl) (RZ.out.bl.below hw RZ.out.lt) (fun h => by rw [← hT8.out.len] at h; exact (ST.out.next (bThen H6.out.2 hw H6.out.2.size)).bl h))
  have hXs := Obol.strm_ref K z12 (S.take 16)
  rw [hT8.out.len] at hXs
  rw [hXs, hT.out] at cC
  rw [hM.out] at cB
  have BR : Hid (∀ W, Below w6.heap.size w6 W → BL W bs (os + 16) M) := Lib.hid (fun W hW => BR0.out.1.below (bThen H6.out.2 hW H6.out.2.size) BR0.out.2)
  clear RZ0 H6x hkl hkb hXs
  refine wp_region_noPanic ?_
  refine wp_region_held_drew (S := fun wq => wq.cell? ⟨b0, 0, none⟩ = some (.int .u64 x) ∧ wq.cell? ⟨b0, 1, none⟩ = some (.int .u64 y) ∧ wq.cell? ⟨b0, 2, none⟩ = some (.slice (some ⟨bs, os, none⟩) 32 cap) ∧ (convert 42 9 (.slice (some ⟨bs, os + 16, none⟩) 16 (cap - 16))).run Tryd.prog wq = .ok (.string (strB M)) wq ∧ HR w wq [(b1, #[.int .u64 0, .int .u64 0, .int .u64 0], 41), (b0, #[.int .u64 x, .int .u64 y, .slice (some ⟨bs, os, none⟩) 32 cap], 44)]) (by kernel_rfl) ?_ (fun hHeld => ?_)
  · have hq0 := HR.drew H6.out
    exact ⟨HR.cell hq0 (b := b0) (cs := #[.int .u64 x, .int .u64 y, .slice (some ⟨bs, os, none⟩) 32 cap]) (t := 44) (by simp) 0 rfl, HR.cell hq0 (b := b0) (cs := #[.int .u64 x, .int .u64 y, .slice (some ⟨bs, os, none⟩) 32 cap]) (t := 44) (by simp) 1 rfl, HR.cell hq0 (b := b0) (cs := #[.int .u64 x, .int .u64 y, .slice (some ⟨bs, os, none⟩) 32 cap]) (t := 44) (by simp) 2 rfl, (conv8 (BR.out _ (bDrew (Below.refl _ _))) hRl.out), hq0⟩
  refine takeH 0 (fun _ _ _ _ _ h => h) (by kernel_rfl) hHeld rfl (by kernel_rfl) (by rfl) (v := ?_) ?_ ?_
  rotate_left
  ((intro wz hz; (try dsimp only at hz); go_simp) <;> with_reducible rfl)
  try simp only [Act.put, List.setIfInBounds_toArray, List.set_cons_zero, List.set_cons_succ]
  refine takeH 1 (fun _ _ _ _ _ h => h) (by kernel_rfl) hHeld rfl (by kernel_rfl) (by rfl) (v := ?_) ?_ ?_
  rotate_left
  ((intro wz hz; (try dsimp only at hz); go_simp) <;> with_reducible rfl)
  try simp only [Act.put, List.setIfInBounds_toArray, List.set_cons_zero, List.set_cons_succ]
  refine takeH 2 (fun _ _ _ _ _ h => h) (by kernel_rfl) hHeld rfl (by kernel_rfl) (by rfl) (v := ?_) ?_ ?_
  rotate_left
  ((intro wz hz; (try dsimp only at hz); go_simp) <;> with_reducible rfl)
  try simp only [Act.put, List.setIfInBounds_toArray, List.set_cons_zero, List.set_cons_succ]
  refine takeH 3 (fun _ _ _ _ _ h => h) (by kernel_rfl) hHeld rfl (by kernel_rfl) (by rfl) (v := ?_) ?_ ?_
  rotate_left
  ((intro wz hz; (try dsimp only at hz); go_simp) <;> with_reducible rfl)
  try simp only [Act.put, List.setIfInBounds_toArray, List.set_cons_zero, List.set_cons_succ]
  refine takeH 4 (fun _ _ _ _ _ h => h) (by kernel_rfl) hHeld rfl (by kernel_rfl) (by rfl) (v := ?_) ?_ ?_
  rotate_left
  ((intro wz hz; (try dsimp only at hz); go_simp) <;> with_reducible rfl)
  try simp only [Act.put, List.setIfInBounds_toArray, List.set_cons_zero, List.set_cons_succ]
  refine takeH 7 (fun _ _ _ _ _ h => h) (by kernel_rfl) hHeld rfl (by kernel_rfl) (by rfl) (v := ?_) ?_ ?_
  rotate_left
  ((intro wz hz; (try dsimp only at hz); go_simp) <;> with_reducible rfl)
  try simp only [Act.put, List.setIfInBounds_toArray, List.set_cons_zero, List.set_cons_succ]
  refine takeH 8 (fun _ _ _ _ _ h => h) (by kernel_rfl) hHeld rfl (by kernel_rfl) (by rfl) (v := ?_) ?_ ?_
  rotate_left
  ((intro wz hz; (try dsimp only at hz); go_simp) <;> with_reducible rfl)
  try simp only [Act.put, List.setIfInBounds_toArray, List.set_cons_zero, List.set_cons_succ]
  refine takeH 9 (fun _ _ _ _ _ h => h) (by kernel_rfl) hHeld rfl (by kernel_rfl) (by rfl) (v := ?_) ?_ ?_
  rotate_left
  ((intro wz hz; (try dsimp only at hz); go_simp) <;> with_reducible rfl)
  try simp only [Act.put, List.setIfInBounds_toArray, List.set_cons_zero, List.set_cons_succ]
  refine takeH 10 (fun _ _ _ _ _ h => h) (by kernel_rfl) hHeld rfl (by kernel_rfl) (by rfl) (v := ?_) ?_ ?_
  rotate_left
  ((intro wz hz; (try dsimp only at hz); go_simp) <;> with_reducible rfl)
  try simp only [Act.put, List.setIfInBounds_toArray, List.set_cons_zero, List.set_cons_succ]
  refine stepH 5 (by kernel_rfl) rfl (by rfl) (fun K hK => ?_)
  go_simp
  refine (cB.out _ (bDrew (Below.refl _ _))).mono ?_
  rintro e wc1 ⟨g4, rfl, hR4, hg4, hbc1⟩
  have hrc1 := HR.next hHeld.2.2.2.2 hbc1
  have hcv := conv8 (cap := 16) (n := 16) hR4.bl hMl.out
  refine hK.out _ _ ?_ (fun hHeld => ?_)
  · exact ⟨HR.cell hrc1 (b := b0) (cs := #[.int .u64 x, .int .u64 y, .slice (some ⟨bs, os, none⟩) 32 cap]) (t := 44) (by simp) 0 rfl, HR.cell hrc1 (b := b0) (cs := #[.int .u64 x, .int .u64 y, .slice (some ⟨bs, os, none⟩) 32 cap]) (t := 44) (by simp) 1 rfl, HR.cell hrc1 (b := b0) (cs := #[.int .u64 x, .int .u64 y, .slice (some ⟨bs, os, none⟩) 32 cap]) (t := 44) (by simp) 2 rfl, (conv8 (BR.out _ (bThen (bDrew (Below.refl w6.heap.size w6)) hbc1 (bDrew (Below.refl w6.heap.size w6)).size)) hRl.out), hrc1⟩
  clear hK K
  try simp only [Act.put, List.setIfInBounds_toArray, List.set_cons_zero, List.set_cons_succ]
  refine stepH 6 (by kernel_rfl) rfl (by rfl) (fun K hK => ?_)
  go_simp
  refine hK.out _ _ ?_ (fun hHeld => ?_)
  · exact hHeld
  clear hK K
  try simp only [Act.put, List.setIfInBounds_toArray, List.set_cons_zero, List.set_cons_succ]
  refine takeH 11 (fun _ _ _ _ _ h => h) (by kernel_rfl) hHeld rfl (by kernel_rfl) (by rfl) (v := ?_) ?_ ?_
  rotate_left
  ((intro wz hz; (try dsimp only at hz); go_simp) <;> with_reducible rfl)
  try simp only [Act.put, List.setIfInBounds_toArray, List.set_cons_zero, List.set_cons_succ]
  refine wpAnyH_done (by kernel_rfl) (NoPanic.normal ?_) _
  have H8 := Lib.hid hHeld.2.2.2.2
  clear hHeld hcv BR cB
  have c_b0_0 := H8.out.cell (b := b0) (cs := #[.int .u64 x, .int .u64 y, .slice (some ⟨bs, os, none⟩) 32 cap]) (t := 44) (by simp) 0 rfl
  have c_b0_1 := H8.out.cell (b := b0) (cs := #[.int .u64 x, .int .u64 y, .slice (some ⟨bs, os, none⟩) 32 cap]) (t := 44) (by simp) 1 rfl
  have c_b0_2 := H8.out.cell (b := b0) (cs := #[.int .u64 x, .int .u64 y, .slice (some ⟨bs, os, none⟩) 32 cap]) (t := 44) (by simp) 2 rfl
  go_wp2_with fail
  refine (cC.out _ (bThen (bDrew (Below.refl w6.heap.size w6)) hbc1 (bDrew (Below.refl w6.heap.size w6)).size)).mono ?_
  rintro e' wr ⟨rfl, R9, hb9⟩
  have H9x := Lib.hid (H8.out.next hb9)
  clear c_b0_0 c_b0_1 c_b0_2
  clear hb9 H8 cC hbc1
  go_upto_region 9 with fail
  obtain ⟨bt, hbt⟩ : ∃ z, wc1.heap.size = z := ⟨_, rfl⟩
  rw [hbt] at R9 ⊢
  replace hbt := Lib.hid hbt
  have RT9 := Lib.hid R9
  have H9 : Hid (HR w wr [(b1, #[.int .u64 0, .int .u64 0, .int .u64 0], 41)]) := Lib.hid (HR.sub H9x.out (by simp))
  have cN1 := Lib.hid (fun W h => hN1.out W bt h)
  have cN2 := Lib.hid (fun W h => hN2.out W bt h)
  have hlt17 : bt < wr.heap.size ∧ b1 < wr.heap.size ∧ w.heap.size ≤ wr.heap.size := ⟨R9.lt, H9.out.lt (b := b1) (cs := #[.int .u64 0, .int .u64 0, .int .u64 0]) (t := 41) (by simp), H9.out.2.size⟩
  clear R9 H9x hN1 hN2
  refine wp_region_noPanic ?_
  refine wp_region_held_drew (S := fun wq => Row wq bt (u8s T) 5 ∧ HR w wq [(b1, #[.int .u64 0, .int .u64 0, .int .u64 0], 41)]) (by kernel_rfl) ?_ (fun hHeld => ?_)
  · have hq0 := HR.drew H9.out
    exact ⟨(Row.drew RT9.out), hq0⟩
  refine takeH 0 (fun _ _ _ _ _ h => h) (by kernel_rfl) hHeld rfl (by kernel_rfl) (by rfl) (v := ?_) ?_ ?_
  rotate_left
  ((intro wz hz; (try dsimp only at hz); go_simp) <;> with_reducible rfl)
  try simp only [Act.put, List.setIfInBounds_toArray, List.set_cons_zero, List.set_cons_succ]
  refine takeH 2 (fun _ _ _ _ _ h => h) (by kernel_rfl) hHeld rfl (by kernel_rfl) (by rfl) (v := ?_) ?_ ?_
  rotate_left
  ((intro wz hz; (try dsimp only at hz); go_simp) <;> with_reducible rfl)
  try simp only [Act.put, List.setIfInBounds_toArray, List.set_cons_zero, List.set_cons_succ]
  refine takeH 4 (fun _ _ _ _ _ h => h) (by kernel_rfl) hHeld rfl (by kernel_rfl) (by rfl) (v := ?_) ?_ ?_
  rotate_left
  ((intro wz hz; (try dsimp only at hz); go_simp) <;> with_reducible rfl)
  try simp only [Act.put, List.setIfInBounds_toArray, List.set_cons_zero, List.set_cons_succ]
  refine takeH 5 (fun _ _ _ _ _ h => h) (by kernel_rfl) hHeld rfl (by kernel_rfl) (by rfl) (v := ?_) ?_ ?_
  rotate_left
  ((intro wz hz; (try dsimp only at hz); go_simp) <;> with_reducible rfl)
  try simp only [Act.put, List.setIfInBounds_toArray, List.set_cons_zero, List.set_cons_succ]
  refine wpAnyH_ready (rs := [1, 8]) (by kernel_rfl) (by simp) ?_
  refine AllReadyH.cons (i := 1) (by rw [List.getElem?_toArray]; exact rfl) (fun K hK => ?_) (AllReadyH.cons (i := 8) (by rw [List.getElem?_toArray]; exact rfl) (fun K hK => ?_) AllReadyH.nil)
  · go_simp
    refine (cN1.out _ hHeld.1).mono ?_
    rintro e wq' ⟨rfl, rfl⟩
    refine hK.out _ _ ?_ (fun hHeld => ?_)
    · exact hHeld
    clear hK K
    try simp only [Act.put, List.setIfInBounds_toArray, List.set_cons_zero, List.set_cons_succ]
    refine wpAnyH_ready (rs := [3, 8]) (by kernel_rfl) (by simp) ?_
    refine AllReadyH.cons (i := 3) (by rw [List.getElem?_toArray]; exact rfl) (fun K hK => ?_) (AllReadyH.cons (i := 8) (by rw [List.getElem?_toArray]; exact rfl) (fun K hK => ?_) AllReadyH.nil)
    · go_simp
      refine (cO.out _).mono ?_
      rintro e wq' ⟨rfl, nq1, rfl⟩
      refine hK.out _ _ ?_ (fun hHeld => ?_)
      · exact ⟨Row.drewN hHeld.1 _, HR.like hHeld.2 rfl rfl rfl rfl⟩
      clear hK K
      try simp only [Act.put, List.setIfInBounds_toArray, List.set_cons_zero, List.set_cons_succ]
      refine wpAnyH_ready (rs := [6, 8]) (by kernel_rfl) (by simp) ?_
      refine AllReadyH.cons (i := 6) (by rw [List.getElem?_toArray]; exact rfl) (fun K hK => ?_) (AllReadyH.cons (i := 8) (by rw [List.getElem?_toArray]; exact rfl) (fun K hK => ?_) AllReadyH.nil)
      · go_simp
        refine (cN2.out _ (show Row (wr.drewN (1 + nq1)) bt (u8s T) 5 from hHeld.1)).mono ?_
        rintro e wq' ⟨rfl, rfl⟩
        refine hK.out _ _ ?_ (fun hHeld => ?_)
        · exact ⟨(show Row (wr.drewN (1 + nq1)) bt (u8s T) 5 from hHeld.1), HR.like hHeld.2 rfl rfl rfl rfl⟩
        clear hK K
        try simp only [Act.put, List.setIfInBounds_toArray, List.set_cons_zero, List.set_cons_succ]
        refine takeH 7 (fun _ _ _ _ _ h => h) (by kernel_rfl) hHeld rfl (by kernel_rfl) (by rfl) (v := ?_) ?_ ?_
        rotate_left
        ((intro wz hz; (try dsimp only at hz); go_simp) <;> with_reducible rfl)
        try simp only [Act.put, List.setIfInBounds_toArray, List.set_cons_zero, List.set_cons_succ]
        refine stepH 8 (by kernel_rfl) rfl (by rfl) (fun K hK => ?_)
        go_simp
        refine hK.out _ _ ?_ (fun hHeld => ?_)
        · exact ⟨Row.alloc (show Row (wr.drewN (1 + nq1)) bt (u8s T) 5 from hHeld.1) _, HR.alloc (show HR w (wr.drewN (1 + nq1)) [(b1, #[.int .u64 0, .int .u64 0, .int .u64 0], 41)] from HR.like hHeld.2 rfl rfl rfl rfl) _⟩
        clear hK K
        try simp only [Act.put, List.setIfInBounds_toArray, List.set_cons_zero, List.set_cons_succ]
        have hrow : Row ((wr.drewN (1 + nq1)).alloc (.cells #[.int .u64 0, .int .u64 0, .int .u64 0] 41)) wr.heap.size #[.int .u64 0, .int .u64 0, .int .u64 0] 41 := Row.new _ _ _
        have rc0 := hrow.cell 0 rfl
        have rc1 := hrow.cell 1 rfl
        have rc2 := hrow.cell 2 rfl
        have rf0 := hrow.free 0
        have rf1 := hrow.free 1
        have rf2 := hrow.free 2
        refine stepH 9 (by kernel_rfl) rfl (by rfl) (fun K hK => ?_)
        go_simp
        refine hK.out _ _ ?_ (fun hHeld => ?_)
        · exact ⟨Row.other (Row.other (Row.other (show Row ((wr.drewN (1 + nq1)).alloc (.cells #[.int .u64 0, .int .u64 0, .int .u64 0] 41)) bt (u8s T) 5 from hHeld.1) (by have := hlt17; omega)) (by have := hlt17; omega)) (by have := hlt17; omega), HR.other (HR.other (HR.other (show HR w ((wr.drewN (1 + nq1)).alloc (.cells #[.int .u64 0, .int .u64 0, .int .u64 0] 41)) [(b1, #[.int .u64 0, .int .u64 0, .int .u64 0], 41)] from HR.like hHeld.2 rfl rfl rfl rfl) (by have := hlt17; simp; omega) (by omega)) (by have := hlt17; simp; omega) (by omega)) (by have := hlt17; simp; omega) (by omega)⟩
        clear hK K
        try simp only [Act.put, List.setIfInBounds_toArray, List.set_cons_zero, List.set_cons_succ]
        refine wpAnyH_done (by kernel_rfl) (NoPanic.normal ?_) _
        have H11 := Lib.hid (HR.add hHeld.2 (show Row (((((wr.drewN (1 + nq1)).alloc (.cells #[.int .u64 0, .int .u64 0, .int .u64 0] 41)).setCell ⟨wr.heap.size, 0, none⟩ (.int .u64 A)).setCell ⟨wr.heap.size, 1, none⟩ (.int .u64 t)).setCell ⟨wr.heap.size, 2, none⟩ (.int .u64 B)) wr.heap.size #[.int .u64 A, .int .u64 t, .int .u64 B] 41 from (show Row ((wr.drewN (1 + nq1)).alloc (.cells #[.int .u64 0, .int .u64 0, .int .u64 0] 41)) wr.heap.size #[.int .u64 0, .int .u64 0, .int .u64 0] 41 from Row.new _ _ _).set3))
        clear hHeld hrow rc0 rc1 rc2 rf0 rf1 rf2
        generalize ((((wr.drewN (1 + nq1)).alloc (.cells #[.int .u64 0, .int .u64 0, .int .u64 0] 41)).setCell ⟨wr.heap.size, 0, none⟩ (.int .u64 A)).setCell ⟨wr.heap.size, 1, none⟩ (.int .u64 t)).setCell ⟨wr.heap.size, 2, none⟩ (.int .u64 B) = w12 at H11 ⊢
        obtain ⟨bn, hbn⟩ : ∃ z, wr.heap.size = z := ⟨_, rfl⟩
        rw [hbn] at H11 hlt17 ⊢
        replace hbn := Lib.hid hbn
        replace hlt17 := Lib.hid hlt17
        clear H9
        by_cases hm : mayI A t B
        · have cC := Lib.hid (fun w => r17MayY A t B hm w)
          obtain ⟨m1, m2, m3⟩ := hm
          have c_bn_0 := H11.out.cell (b := bn) (cs := #[.int .u64 A, .int .u64 t, .int .u64 B]) (t := 41) (by simp) 0 rfl
          have c_bn_1 := H11.out.cell (b := bn) (cs := #[.int .u64 A, .int .u64 t, .int .u64 B]) (t := 41) (by simp) 1 rfl
          have c_bn_2 := H11.out.cell (b := bn) (cs := #[.int .u64 A, .int .u64 t, .int .u64 B]) (t := 41) (by simp) 2 rfl
          go_wp2_with fail
          refine (cC.out _).mono ?_
          rintro e' w13 ⟨rfl, hb13⟩
          have H13 := Lib.hid (H11.out.next hb13)
          clear c_bn_0 c_bn_1 c_bn_2
          clear hb13 H11
          have c_bn_0 := H13.out.cell (b := bn) (cs := #[.int .u64 A, .int .u64 t, .int .u64 B]) (t := 41) (by simp) 0 rfl
          have c_bn_1 := H13.out.cell (b := bn) (cs := #[.int .u64 A, .int .u64 t, .int .u64 B]) (t := 41) (by simp) 1 rfl
          have c_bn_2 := H13.out.cell (b := bn) (cs := #[.int .u64 A, .int .u64 t, .int .u64 B]) (t := 41) (by simp) 2 rfl
          have c_b1_0 := H13.out.cell (b := b1) (cs := #[.int .u64 0, .int .u64 0, .int .u64 0]) (t := 41) (by simp) 0 rfl
          have c_b1_1 := H13.out.cell (b := b1) (cs := #[.int .u64 0, .int .u64 0, .int .u64 0]) (t := 41) (by simp) 1 rfl
          have c_b1_2 := H13.out.cell (b := b1) (cs := #[.int .u64 0, .int .u64 0, .int .u64 0]) (t := 41) (by simp) 2 rfl
          have f_b1_0 := H13.out.free (b := b1) (cs := #[.int .u64 0, .int .u64 0, .int .u64 0]) (t := 41) (by simp) 0
          have f_b1_1 := H13.out.free (b := b1) (cs := #[.int .u64 0, .int .u64 0, .int .u64 0]) (t := 41) (by simp) 1
          have f_b1_2 := H13.out.free (b := b1) (cs := #[.int .u64 0, .int .u64 0, .int .u64 0]) (t := 41) (by simp) 2
          have B4 := Lib.hid (bSet (bSet (bSet H13.out.2 (b := b1) (o := 0) (u := .int .u64 A) (by have := ho.out; omega)) (b := b1) (o := 1) (u := .int .u64 t) (by have := ho.out; omega)) (b := b1) (o := 2) (u := .int .u64 B) (by have := ho.out; omega))
          have hR := (H13.out.row (b := b1) (cs := #[.int .u64 0, .int .u64 0, .int .u64 0]) (t := 41) (by simp)).set3 (v0 := .int .u64 A) (v1 := .int .u64 t) (v2 := .int .u64 B)
          have s0 := hR.cell 0 rfl
          have s1 := hR.cell 1 rfl
          have s2 := hR.cell 2 rfl
          clear hR
          go_wp2_with fail
          refine bodyPost_ret (v := .tuple #[.agg #[.int .u64 A, .int .u64 t, .int .u64 B], .bool true]) (by simp [results, Tryd.results25, go_sem, s0, s1, s2]) rfl ⟨.inl ⟨AB.out.2.2 m1 m3, by rw [AB.out.1, AB.out.2.1]⟩, B4.out⟩
        · have cC := Lib.hid (fun w => r17MayN A t B hm w)
          have hm2 := Lib.hid (fun h => hm (hback.out h))
          clear hm
          have c_bn_0 := H11.out.cell (b := bn) (cs := #[.int .u64 A, .int .u64 t, .int .u64 B]) (t := 41) (by simp) 0 rfl
          have c_bn_1 := H11.out.cell (b := bn) (cs := #[.int .u64 A, .int .u64 t, .int .u64 B]) (t := 41) (by simp) 1 rfl
          have c_bn_2 := H11.out.cell (b := bn) (cs := #[.int .u64 A, .int .u64 t, .int .u64 B]) (t := 41) (by simp) 2 rfl
          go_wp2_with fail
          refine (cC.out _).mono ?_
          rintro e' w13 ⟨rfl, hb13⟩
          have H13 := Lib.hid (H11.out.next hb13)
          clear c_bn_0 c_bn_1 c_bn_2
          clear hb13 H11
          have c_bn_0 := H13.out.cell (b := bn) (cs := #[.int .u64 A, .int .u64 t, .int .u64 B]) (t := 41) (by simp) 0 rfl
          have c_bn_1 := H13.out.cell (b := bn) (cs := #[.int .u64 A, .int .u64 t, .int .u64 B]) (t := 41) (by simp) 1 rfl
          have c_bn_2 := H13.out.cell (b := bn) (cs := #[.int .u64 A, .int .u64 t, .int .u64 B]) (t := 41) (by simp) 2 rfl
          have c_b1_0 := H13.out.cell (b := b1) (cs := #[.int .u64 0, .int .u64 0, .int .u64 0]) (t := 41) (by simp) 0 rfl
          have c_b1_1 := H13.out.cell (b := b1) (cs := #[.int .u64 0, .int .u64 0, .int .u64 0]) (t := 41) (by simp) 1 rfl
          have c_b1_2 := H13.out.cell (b := b1) (cs := #[.int .u64 0, .int .u64 0, .int .u64 0]) (t := 41) (by simp) 2 rfl
          have f_b1_0 := H13.out.free (b := b1) (cs := #[.int .u64 0, .int .u64 0, .int .u64 0]) (t := 41) (by simp) 0
          have f_b1_1 := H13.out.free (b := b1) (cs := #[.int .u64 0, .int .u64 0, .int .u64 0]) (t := 41) (by simp) 1
          have f_b1_2 := H13.out.free (b := b1) (cs := #[.int .u64 0, .int .u64 0, .int .u64 0]) (t := 41) (by simp) 2
          have B4 := Lib.hid (bSet (bSet (bSet H13.out.2 (b := b1) (o := 0) (u := .int .u64 0) (by have := ho.out; omega)) (b := b1) (o := 1) (u := .int .u64 0) (by have := ho.out; omega)) (b := b1) (o := 2) (u := .int .u64 0) (by have := ho.out; omega))
          have hR := (H13.out.row (b := b1) (cs := #[.int .u64 0, .int .u64 0, .int .u64 0]) (t := 41) (by simp)).set3 (v0 := .int .u64 0) (v1 := .int .u64 0) (v2 := .int .u64 0)
          have s0 := hR.cell 0 rfl
          have s1 := hR.cell 1 rfl
          have s2 := hR.cell 2 rfl
          clear hR
          go_wp2_with fail
          refine bodyPost_ret (v := .tuple #[.agg #[.int .u64 0, .int .u64 0, .int .u64 0], .bool false]) (by simp [results, Tryd.results25, go_sem, s0, s1, s2]) rfl ⟨.inr ⟨hm2.out, rfl⟩, B4.out⟩
      · go_simp
        refine hK.out _ _ ?_ (fun hHeld => ?_)
        · exact ⟨Row.alloc (show Row (wr.drewN (1 + nq1)) bt (u8s T) 5 from hHeld.1) _, HR.alloc (show HR w (wr.drewN (1 + nq1)) [(b1, #[.int .u64 0, .int .u64 0, .int .u64 0], 41)] from HR.like hHeld.2 rfl rfl rfl rfl) _⟩
        clear hK K
        try simp only [Act.put, List.setIfInBounds_toArray, List.set_cons_zero, List.set_cons_succ]
        refine stepH 6 (by kernel_rfl) rfl (by rfl) (fun K hK => ?_)
        go_simp
        refine (cN2.out _ hHeld.1).mono ?_
        rintro e wq' ⟨rfl, rfl⟩
        refine hK.out _ _ ?_ (fun hHeld => ?_)
        · exact hHeld
        clear hK K
        try simp only [Act.put, List.setIfInBounds_toArray, List.set_cons_zero, List.set_cons_succ]
        refine takeH 7 (fun _ _ _ _ _ h => h) (by kernel_rfl) hHeld rfl (by kernel_rfl) (by rfl) (v := ?_) ?_ ?_
        rotate_left
        ((intro wz hz; (try dsimp only at hz); go_simp) <;> with_reducible rfl)
        try simp only [Act.put, List.setIfInBounds_toArray, List.set_cons_zero, List.set_cons_succ]
        have hrow : Row ((wr.drewN (1 + nq1)).alloc (.cells #[.int .u64 0, .int .u64 0, .int .u64 0] 41)) wr.heap.size #[.int .u64 0, .int .u64 0, .int .u64 0] 41 := Row.new _ _ _
        have rc0 := hrow.cell 0 rfl
        have rc1 := hrow.cell 1 rfl
        have rc2 := hrow.cell 2 rfl
        have rf0 := hrow.free 0
        have rf1 := hrow.free 1
        have rf2 := hrow.free 2
        refine stepH 9 (by kernel_rfl) rfl (by rfl) (fun K hK => ?_)
        go_simp
        refine hK.out _ _ ?_ (fun hHeld => ?_)
        · exact ⟨Row.other (Row.other (Row.other (show Row ((wr.drewN (1 + nq1)).alloc (.cells #[.int .u64 0, .int .u64 0, .int .u64 0] 41)) bt (u8s T) 5 from hHeld.1) (by have := hlt17; omega)) (by have := hlt17; omega)) (by have := hlt17; omega), HR.other (HR.other (HR.other (show HR w ((wr.drewN (1 + nq1)).alloc (.cells #[.int .u64 0, .int .u64 0, .int .u64 0] 41)) [(b1, #[.int .u64 0, .int .u64 0, .int .u64 0], 41)] from HR.like hHeld.2 rfl rfl rfl rfl) (by have := hlt17; simp; omega) (by omega)) (by have := hlt17; simp; omega) (by omega)) (by have := hlt17; simp; omega) (by omega)⟩
        clear hK K
        try simp only [Act.put, List.setIfInBounds_toArray, List.set_cons_zero, List.set_cons_succ]
        refine wpAnyH_done (by kernel_rfl) (NoPanic.normal ?_) _
        have H11 := Lib.hid (HR.add hHeld.2 (show Row (((((wr.drewN (1 + nq1)).alloc (.cells #[.int .u64 0, .int .u64 0, .int .u64 0] 41)).setCell ⟨wr.heap.size, 0, none⟩ (.int .u64 A)).setCell ⟨wr.heap.size, 1, none⟩ (.int .u64 t)).setCell ⟨wr.heap.size, 2, none⟩ (.int .u64 B)) wr.heap.size #[.int .u64 A, .int .u64 t, .int .u64 B] 41 from (show Row ((wr.drewN (1 + nq1)).alloc (.cells #[.int .u64 0, .int .u64 0, .int .u64 0] 41)) wr.heap.size #[.int .u64 0, .int .u64 0, .int .u64 0] 41 from Row.new _ _ _).set3))
        clear hHeld hrow rc0 rc1 rc2 rf0 rf1 rf2
        generalize ((((wr.drewN (1 + nq1)).alloc (.cells #[.int .u64 0, .int .u64 0, .int .u64 0] 41)).setCell ⟨wr.heap.size, 0, none⟩ (.int .u64 A)).setCell ⟨wr.heap.size, 1, none⟩ (.int .u64 t)).setCell ⟨wr.heap.size, 2, none⟩ (.int .u64 B) = w12 at H11 ⊢
        obtain ⟨bn, hbn⟩ : ∃ z, wr.heap.size = z := ⟨_, rfl⟩
        rw [hbn] at H11 hlt17 ⊢
        replace hbn := Lib.hid hbn
        replace hlt17 := Lib.hid hlt17
        clear H9
        by_cases hm : mayI A t B
        · have cC := Lib.hid (fun w => r17MayY A t B hm w)
          obtain ⟨m1, m2, m3⟩ := hm
          have c_bn_0 := H11.out.cell (b := bn) (cs := #[.int .u64 A, .int .u64 t, .int .u64 B]) (t := 41) (by simp) 0 rfl
          have c_bn_1 := H11.out.cell (b := bn) (cs := #[.int .u64 A, .int .u64 t, .int .u64 B]) (t := 41) (by simp) 1 rfl
          have c_bn_2 := H11.out.cell (b := bn) (cs := #[.int .u64 A, .int .u64 t, .int .u64 B]) (t := 41) (by simp) 2 rfl
          go_wp2_with fail
          refine (cC.out _).mono ?_
          rintro e' w13 ⟨rfl, hb13⟩
          have H13 := Lib.hid (H11.out.next hb13)
          clear c_bn_0 c_bn_1 c_bn_2
          clear hb13 H11
          have c_bn_0 := H13.out.cell (b := bn) (cs := #[.int .u64 A, .int .u64 t, .int .u64 B]) (t := 41) (by simp) 0 rfl
          have c_bn_1 := H13.out.cell (b := bn) (cs := #[.int .u64 A, .int .u64 t, .int .u64 B]) (t := 41) (by simp) 1 rfl
          have c_bn_2 := H13.out.cell (b := bn) (cs := #[.int .u64 A, .int .u64 t, .int .u64 B]) (t := 41) (by simp) 2 rfl
          have c_b1_0 := H13.out.cell (b := b1) (cs := #[.int .u64 0, .int .u64 0, .int .u64 0]) (t := 41) (by simp) 0 rfl
          have c_b1_1 := H13.out.cell (b := b1) (cs := #[.int .u64 0, .int .u64 0, .int .u64 0]) (t := 41) (by simp) 1 rfl
          have c_b1_2 := H13.out.cell (b := b1) (cs := #[.int .u64 0, .int .u64 0, .int .u64 0]) (t := 41) (by simp) 2 rfl
          have f_b1_0 := H13.out.free (b := b1) (cs := #[.int .u64 0, .int .u64 0, .int .u64 0]) (t := 41) (by simp) 0
          have f_b1_1 := H13.out.free (b := b1) (cs := #[.int .u64 0, .int .u64 0, .int .u64 0]) (t := 41) (by simp) 1
          have f_b1_2 := H13.out.free (b := b1) (cs := #[.int .u64 0, .int .u64 0, .int .u64 0]) (t := 41) (by simp) 2
          have B4 := Lib.hid (bSet (bSet (bSet H13.out.2 (b := b1) (o := 0) (u := .int .u64 A) (by have := ho.out; omega)) (b := b1) (o := 1) (u := .int .u64 t) (by have := ho.out; omega)) (b := b1) (o := 2) (u := .int .u64 B) (by have := ho.out; omega))
          have hR := (H13.out.row (b := b1) (cs := #[.int .u64 0, .int .u64 0, .int .u64 0]) (t := 41) (by simp)).set3 (v0 := .int .u64 A) (v1 := .int .u64 t) (v2 := .int .u64 B)
          have s0 := hR.cell 0 rfl
          have s1 := hR.cell 1 rfl
          have s2 := hR.cell 2 rfl
          clear hR
          go_wp2_with fail
          refine bodyPost_ret (v := .tuple #[.agg #[.int .u64 A, .int .u64 t, .int .u64 B], .bool true]) (by simp [results, Tryd.results25, go_sem, s0, s1, s2]) rfl ⟨.inl ⟨AB.out.2.2 m1 m3, by rw [AB.out.1, AB.out.2.1]⟩, B4.out⟩
        · have cC := Lib.hid (fun w => r17MayN A t B hm w)
          have hm2 := Lib.hid (fun h => hm (hback.out h))
          clear hm
          have c_bn_0 := H11.out.cell (b := bn) (cs := #[.int .u64 A, .int .u64 t, .int .u64 B]) (t := 41) (by simp) 0 rfl
          have c_bn_1 := H11.out.cell (b := bn) (cs := #[.int .u64 A, .int .u64 t, .int .u64 B]) (t := 41) (by simp) 1 rfl
          have c_bn_2 := H11.out.cell (b := bn) (cs := #[.int .u64 A, .int .u64 t, .int .u64 B]) (t := 41) (by simp) 2 rfl
          go_wp2_with fail
          refine (cC.out _).mono ?_
          rintro e' w13 ⟨rfl, hb13⟩
          have H13 := Lib.hid (H11.out.next hb13)
          clear c_bn_0 c_bn_1 c_bn_2
          clear hb13 H11
          have c_bn_0 := H13.out.cell (b := bn) (cs := #[.int .u64 A, .int .u64 t, .int .u64 B]) (t := 41) (by simp) 0 rfl
          have c_bn_1 := H13.out.cell (b := bn) (cs := #[.int .u64 A, .int .u64 t, .int .u64 B]) (t := 41) (by simp) 1 rfl
          have c_bn_2 := H13.out.cell (b := bn) (cs := #[.int .u64 A, .int .u64 t, .int .u64 B]) (t := 41) (by simp) 2 rfl
          have c_b1_0 := H13.out.cell (b := b1) (cs := #[.int .u64 0, .int .u64 0, .int .u64 0]) (t := 41) (by simp) 0 rfl
          have c_b1_1 := H13.out.cell (b := b1) (cs := #[.int .u64 0, .int .u64 0, .int .u64 0]) (t := 41) (by simp) 1 rfl
          have c_b1_2 := H13.out.cell (b := b1) (cs := #[.int .u64 0, .int .u64 0, .int .u64 0]) (t := 41) (by simp) 2 rfl
          have f_b1_0 := H13.out.free (b := b1) (cs := #[.int .u64 0, .int .u64 0, .int .u64 0]) (t := 41) (by simp) 0
          have f_b1_1 := H13.out.free (b := b1) (cs := #[.int .u64 0, .int .u64 0, .int .u64 0]) (t := 41) (by simp) 1
          have f_b1_2 := H13.out.free (b := b1) (cs := #[.int .u64 0, .int .u64 0, .int .u64 0]) (t := 41) (by simp) 2
          have B4 := Lib.hid (bSet (bSet (bSet H13.out.2 (b := b1) (o := 0) (u := .int .u64 0) (by have := ho.out; omega)) (b := b1) (o := 1) (u := .int .u64 0) (by have := ho.out; omega)) (b := b1) (o := 2) (u := .int .u64 0) (by have := ho.out; omega))
          have hR := (H13.out.row (b := b1) (cs := #[.int .u64 0, .int .u64 0, .int .u64 0]) (t := 41) (by simp)).set3 (v0 := .int .u64 0) (v1 := .int .u64 0) (v2 := .int .u64 0)
          have s0 := hR.cell 0 rfl
          have s1 := hR.cell 1 rfl
          have s2 := hR.cell 2 rfl
          clear hR
          go_wp2_with fail
          refine bodyPost_ret (v := .tuple #[.agg #[.int .u64 0, .int .u64 0, .int .u64 0], .bool false]) (by simp [results, Tryd.results25, go_sem, s0, s1, s2]) rfl ⟨.inr ⟨hm2.out, rfl⟩, B4.out⟩
    · go_simp
      refine hK.out _ _ ?_ (fun hHeld => ?_)
      · exact ⟨Row.alloc hHeld.1 _, HR.alloc hHeld.2 _⟩
      clear hK K
      try simp only [Act.put, List.setIfInBounds_toArray, List.set_cons_zero, List.set_cons_succ]
      refine stepH 3 (by kernel_rfl) rfl (by rfl) (fun K hK => ?_)
      go_simp
      refine (cO.out _).mono ?_
      rintro e wq' ⟨rfl, nq1, rfl⟩
      refine hK.out _ _ ?_ (fun hHeld => ?_)
      · exact ⟨Row.drewN hHeld.1 _, HR.like hHeld.2 rfl rfl rfl rfl⟩
      clear hK K
      try simp only [Act.put, List.setIfInBounds_toArray, List.set_cons_zero, List.set_cons_succ]
      refine stepH 6 (by kernel_rfl) rfl (by rfl) (fun K hK => ?_)
      go_simp
      refine (cN2.out _ (show Row ((wr.alloc (.cells #[.int .u64 0, .int .u64 0, .int .u64 0] 41)).drewN (1 + nq1)) bt (u8s T) 5 from hHeld.1)).mono ?_
      rintro e wq' ⟨rfl, rfl⟩
      refine hK.out _ _ ?_ (fun hHeld => ?_)
      · exact ⟨(show Row ((wr.alloc (.cells #[.int .u64 0, .int .u64 0, .int .u64 0] 41)).drewN (1 + nq1)) bt (u8s T) 5 from hHeld.1), HR.like hHeld.2 rfl rfl rfl rfl⟩
      clear hK K
      try simp only [Act.put, List.setIfInBounds_toArray, List.set_cons_zero, List.set_cons_succ]
      refine takeH 7 (fun _ _ _ _ _ h => h) (by kernel_rfl) hHeld rfl (by kernel_rfl) (by rfl) (v := ?_) ?_ ?_
      rotate_left
      ((intro wz hz; (try dsimp only at hz); go_simp) <;> with_reducible rfl)
      try simp only [Act.put, List.setIfInBounds_toArray, List.set_cons_zero, List.set_cons_succ]
      have hrow : Row ((wr.alloc (.cells #[.int .u64 0, .int .u64 0, .int .u64 0] 41)).drewN (1 + nq1)) wr.heap.size #[.int .u64 0, .int .u64 0, .int .u64 0] 41 := Row.drewN (Row.new _ _ _) _
      have rc0 := hrow.cell 0 rfl
      have rc1 := hrow.cell 1 rfl
      have rc2 := hrow.cell 2 rfl
      have rf0 := hrow.free 0
      have rf1 := hrow.free 1
      have rf2 := hrow.free 2
      refine stepH 9 (by kernel_rfl) rfl (by rfl) (fun K hK => ?_)
      go_simp
      refine hK.out _ _ ?_ (fun hHeld => ?_)
      · exact ⟨Row.other (Row.other (Row.other (show Row ((wr.alloc (.cells #[.int .u64 0, .int .u64 0, .int .u64 0] 41)).drewN (1 + nq1)) bt (u8s T) 5 from hHeld.1) (by have := hlt17; omega)) (by have := hlt17; omega)) (by have := hlt17; omega), HR.other (HR.other (HR.other (show HR w ((wr.alloc (.cells #[.int .u64 0, .int .u64 0, .int .u64 0] 41)).drewN (1 + nq1)) [(b1, #[.int .u64 0, .int .u64 0, .int .u64 0], 41)] from HR.like hHeld.2 rfl rfl rfl rfl) (by have := hlt17; simp; omega) (by omega)) (by have := hlt17; simp; omega) (by omega)) (by have := hlt17; simp; omega) (by omega)⟩
      clear hK K
      try simp only [Act.put, List.setIfInBounds_toArray, List.set_cons_zero, List.set_cons_succ]
      refine wpAnyH_done (by kernel_rfl) (NoPanic.normal ?_) _
      have H11 := Lib.hid (HR.add hHeld.2 (show Row (((((wr.alloc (.cells #[.int .u64 0, .int .u64 0, .int .u64 0] 41)).drewN (1 + nq1)).setCell ⟨wr.heap.size, 0, none⟩ (.int .u64 A)).setCell ⟨wr.heap.size, 1, none⟩ (.int .u64 t)).setCell ⟨wr.heap.size, 2, none⟩ (.int .u64 B)) wr.heap.size #[.int .u64 A, .int .u64 t, .int .u64 B] 41 from (show Row ((wr.alloc (.cells #[.int .u64 0, .int .u64 0, .int .u64 0] 41)).drewN (1 + nq1)) wr.heap.size #[.int .u64 0, .int .u64 0, .int .u64 0] 41 from Row.drewN (Row.new _ _ _) _).set3))
      clear hHeld hrow rc0 rc1 rc2 rf0 rf1 rf2
      generalize ((((wr.alloc (.cells #[.int .u64 0, .int .u64 0, .int .u64 0] 41)).drewN (1 + nq1)).setCell ⟨wr.heap.size, 0, none⟩ (.int .u64 A)).setCell ⟨wr.heap.size, 1, none⟩ (.int .u64 t)).setCell ⟨wr.heap.size, 2, none⟩ (.int .u64 B) = w12 at H11 ⊢
      obtain ⟨bn, hbn⟩ : ∃ z, wr.heap.size = z := ⟨_, rfl⟩
      rw [hbn] at H11 hlt17 ⊢
      replace hbn := Lib.hid hbn
      replace hlt17 := Lib.hid hlt17
      clear H9
      by_cases hm : mayI A t B
      · have cC := Lib.hid (fun w => r17MayY A t B hm w)
        obtain ⟨m1, m2, m3⟩ := hm
        have c_bn_0 := H11.out.cell (b := bn) (cs := #[.int .u64 A, .int .u64 t, .int .u64 B]) (t := 41) (by simp) 0 rfl
        have c_bn_1 := H11.out.cell (b := bn) (cs := #[.int .u64 A, .int .u64 t, .int .u64 B]) (t := 41) (by simp) 1 rfl
        have c_bn_2 := H11.out.cell (b := bn) (cs := #[.int .u64 A, .int .u64 t, .int .u64 B]) (t := 41) (by simp) 2 rfl
        go_wp2_with fail
        refine (cC.out _).mono ?_
        rintro e' w13 ⟨rfl, hb13⟩
        have H13 := Lib.hid (H11.out.next hb13)
        clear c_bn_0 c_bn_1 c_bn_2
        clear hb13 H11
        have c_bn_0 := H13.out.cell (b := bn) (cs := #[.int .u64 A, .int .u64 t, .int .u64 B]) (t := 41) (by simp) 0 rfl
        have c_bn_1 := H13.out.cell (b := bn) (cs := #[.int .u64 A, .int .u64 t, .int .u64 B]) (t := 41) (by simp) 1 rfl
        have c_bn_2 := H13.out.cell (b := bn) (cs := #[.int .u64 A, .int .u64 t, .int .u64 B]) (t := 41) (by simp) 2 rfl
        have c_b1_0 := H13.out.cell (b := b1) (cs := #[.int .u64 0, .int .u64 0, .int .u64 0]) (t := 41) (by simp) 0 rfl
        have c_b1_1 := H13.out.cell (b := b1) (cs := #[.int .u64 0, .int .u64 0, .int .u64 0]) (t := 41) (by simp) 1 rfl
        have c_b1_2 := H13.out.cell (b := b1) (cs := #[.int .u64 0, .int .u64 0, .int .u64 0]) (t := 41) (by simp) 2 rfl
        have f_b1_0 := H13.out.free (b := b1) (cs := #[.int .u64 0, .int .u64 0, .int .u64 0]) (t := 41) (by simp) 0
        have f_b1_1 := H13.out.free (b := b1) (cs := #[.int .u64 0, .int .u64 0, .int .u64 0]) (t := 41) (by simp) 1
        have f_b1_2 := H13.out.free (b := b1) (cs := #[.int .u64 0, .int .u64 0, .int .u64 0]) (t := 41) (by simp) 2
        have B4 := Lib.hid (bSet (bSet (bSet H13.out.2 (b := b1) (o := 0) (u := .int .u64 A) (by have := ho.out; omega)) (b := b1) (o := 1) (u := .int .u64 t) (by have := ho.out; omega)) (b := b1) (o := 2) (u := .int .u64 B) (by have := ho.out; omega))
        have hR := (H13.out.row (b := b1) (cs := #[.int .u64 0, .int .u64 0, .int .u64 0]) (t := 41) (by simp)).set3 (v0 := .int .u64 A) (v1 := .int .u64 t) (v2 := .int .u64 B)
        have s0 := hR.cell 0 rfl
        have s1 := hR.cell 1 rfl
        have s2 := hR.cell 2 rfl
        clear hR
        go_wp2_with fail
        refine bodyPost_ret (v := .tuple #[.agg #[.int .u64 A, .int .u64 t, .int .u64 B], .bool true]) (by simp [results, Tryd.results25, go_sem, s0, s1, s2]) rfl ⟨.inl ⟨AB.out.2.2 m1 m3, by rw [AB.out.1, AB.out.2.1]⟩, B4.out⟩
      · have cC := Lib.hid (fun w => r17MayN A t B hm w)
        have hm2 := Lib.hid (fun h => hm (hback.out h))
        clear hm
        have c_bn_0 := H11.out.cell (b := bn) (cs := #[.int .u64 A, .int .u64 t, .int .u64 B]) (t := 41) (by simp) 0 rfl
        have c_bn_1 := H11.out.cell (b := bn) (cs := #[.int .u64 A, .int .u64 t, .int .u64 B]) (t := 41) (by simp) 1 rfl
        have c_bn_2 := H11.out.cell (b := bn) (cs := #[.int .u64 A, .int .u64 t, .int .u64 B]) (t := 41) (by simp) 2 rfl
        go_wp2_with fail
        refine (cC.out _).mono ?_
        rintro e' w13 ⟨rfl, hb13⟩
        have H13 := Lib.hid (H11.out.next hb13)
        clear c_bn_0 c_bn_1 c_bn_2
        clear hb13 H11
        have c_bn_0 := H13.out.cell (b := bn) (cs := #[.int .u64 A, .int .u64 t, .int .u64 B]) (t := 41) (by simp) 0 rfl
        have c_bn_1 := H13.out.cell (b := bn) (cs := #[.int .u64 A, .int .u64 t, .int .u64 B]) (t := 41) (by simp) 1 rfl
        have c_bn_2 := H13.out.cell (b := bn) (cs := #[.int .u64 A, .int .u64 t, .int .u64 B]) (t := 41) (by simp) 2 rfl
        have c_b1_0 := H13.out.cell (b := b1) (cs := #[.int .u64 0, .int .u64 0, .int .u64 0]) (t := 41) (by simp) 0 rfl
        have c_b1_1 := H13.out.cell (b := b1) (cs := #[.int .u64 0, .int .u64 0, .int .u64 0]) (t := 41) (by simp) 1 rfl
        have c_b1_2 := H13.out.cell (b := b1) (cs := #[.int .u64 0, .int .u64 0, .int .u64 0]) (t := 41) (by simp) 2 rfl
        have f_b1_0 := H13.out.free (b := b1) (cs := #[.int .u64 0, .int .u64 0, .int .u64 0]) (t := 41) (by simp) 0
        have f_b1_1 := H13.out.free (b := b1) (cs := #[.int .u64 0, .int .u64 0, .int .u64 0]) (t := 41) (by simp) 1
        have f_b1_2 := H13.out.free (b := b1) (cs := #[.int .u64 0, .int .u64 0, .int .u64 0]) (t := 41) (by simp) 2
        have B4 := Lib.hid (bSet (bSet (bSet H13.out.2 (b := b1) (o := 0) (u := .int .u64 0) (by have := ho.out; omega)) (b := b1) (o := 1) (u := .int .u64 0) (by have := ho.out; omega)) (b := b1) (o := 2) (u := .int .u64 0) (by have := ho.out; omega))
        have hR := (H13.out.row (b := b1) (cs := #[.int .u64 0, .int .u64 0, .int .u64 0]) (t := 41) (by simp)).set3 (v0 := .int .u64 0) (v1 := .int .u64 0) (v2 := .int .u64 0)
        have s0 := hR.cell 0 rfl
        have s1 := hR.cell 1 rfl
        have s2 := hR.cell 2 rfl
        clear hR
        go_wp2_with fail
        refine bodyPost_ret (v := .tuple #[.agg #[.int .u64 0, .int .u64 0, .int .u64 0], .bool false]) (by simp [results, Tryd.results25, go_sem, s0, s1, s2]) rfl ⟨.inr ⟨hm2.out, rfl⟩, B4.out⟩
  · go_simp
    refine hK.out _ _ ?_ (fun hHeld => ?_)
    · exact ⟨Row.alloc hHeld.1 _, HR.alloc hHeld.2 _⟩
    clear hK K
    try simp only [Act.put, List.setIfInBounds_toArray, List.set_cons_zero, List.set_cons_succ]
    refine stepH 1 (by kernel_rfl) rfl (by rfl) (fun K hK => ?_)
    go_simp
    refine (cN1.out _ hHeld.1).mono ?_
    rintro e wq' ⟨rfl, rfl⟩
    refine hK.out _ _ ?_ (fun hHeld => ?_)
    · exact hHeld
    clear hK K
    try simp only [Act.put, List.setIfInBounds_toArray, List.set_cons_zero, List.set_cons_succ]
    refine stepH 3 (by kernel_rfl) rfl (by rfl) (fun K hK => ?_)
    go_simp
    refine (cO.out _).mono ?_
    rintro e wq' ⟨rfl, nq1, rfl⟩
    refine hK.out _ _ ?_ (fun hHeld => ?_)
    · exact ⟨Row.drewN hHeld.1 _, HR.like hHeld.2 rfl rfl rfl rfl⟩
    clear hK K
    try simp only [Act.put, List.setIfInBounds_toArray, List.set_cons_zero, List.set_cons_succ]
    refine stepH 6 (by kernel_rfl) rfl (by rfl) (fun K hK => ?_)
    go_simp
    refine (cN2.out _ (show Row ((wr.alloc (.cells #[.int .u64 0, .int .u64 0, .int .u64 0] 41)).drewN (1 + nq1)) bt (u8s T) 5 from hHeld.1)).mono ?_
    rintro e wq' ⟨rfl, rfl⟩
    refine hK.out _ _ ?_ (fun hHeld => ?_)
    · exact ⟨(show Row ((wr.alloc (.cells #[.int .u64 0, .int .u64 0, .int .u64 0] 41)).drewN (1 + nq1)) bt (u8s T) 5 from hHeld.1), HR.like hHeld.2 rfl rfl rfl rfl⟩
    clear hK K
    try simp only [Act.put, List.setIfInBounds_toArray, List.set_cons_zero, List.set_cons_succ]
    refine takeH 7 (fun _ _ _ _ _ h => h) (by kernel_rfl) hHeld rfl (by kernel_rfl) (by rfl) (v := ?_) ?_ ?_
    rotate_left
    ((intro wz hz; (try dsimp only at hz); go_simp) <;> with_reducible rfl)
    try simp only [Act.put, List.setIfInBounds_toArray, List.set_cons_zero, List.set_cons_succ]
    have hrow : Row ((wr.alloc (.cells #[.int .u64 0, .int .u64 0, .int .u64 0] 41)).drewN (1 + nq1)) wr.heap.size #[.int .u64 0, .int .u64 0, .int .u64 0] 41 := Row.drewN (Row.new _ _ _) _
    have rc0 := hrow.cell 0 rfl
    have rc1 := hrow.cell 1 rfl
    have rc2 := hrow.cell 2 rfl
    have rf0 := hrow.free 0
    have rf1 := hrow.free 1
    have rf2 := hrow.free 2
    refine stepH 9 (by kernel_rfl) rfl (by rfl) (fun K hK => ?_)
    go_simp
    refine hK.out _ _ ?_ (fun hHeld => ?_)
    · exact ⟨Row.other (Row.other (Row.other (show Row ((wr.alloc (.cells #[.int .u64 0, .int .u64 0, .int .u64 0] 41)).drewN (1 + nq1)) bt (u8s T) 5 from hHeld.1) (by have := hlt17; omega)) (by have := hlt17; omega)) (by have := hlt17; omega), HR.other (HR.other (HR.other (show HR w ((wr.alloc (.cells #[.int .u64 0, .int .u64 0, .int .u64 0] 41)).drewN (1 + nq1)) [(b1, #[.int .u64 0, .int .u64 0, .int .u64 0], 41)] from HR.like hHeld.2 rfl rfl rfl rfl) (by have := hlt17; simp; omega) (by omega)) (by have := hlt17; simp; omega) (by omega)) (by have := hlt17; simp; omega) (by omega)⟩
    clear hK K
    try simp only [Act.put, List.setIfInBounds_toArray, List.set_cons_zero, List.set_cons_succ]
    refine wpAnyH_done (by kernel_rfl) (NoPanic.normal ?_) _
    have H11 := Lib.hid (HR.add hHeld.2 (show Row (((((wr.alloc (.cells #[.int .u64 0, .int .u64 0, .int .u64 0] 41)).drewN (1 + nq1)).setCell ⟨wr.heap.size, 0, none⟩ (.int .u64 A)).setCell ⟨wr.heap.size, 1, none⟩ (.int .u64 t)).setCell ⟨wr.heap.size, 2, none⟩ (.int .u64 B)) wr.heap.size #[.int .u64 A, .int .u64 t, .int .u64 B] 41 from (show Row ((wr.alloc (.cells #[.int .u64 0, .int .u64 0, .int .u64 0] 41)).drewN (1 + nq1)) wr.heap.size #[.int .u64 0, .int .u64 0, .int .u64 0] 41 from Row.drewN (Row.new _ _ _) _).set3))
    clear hHeld hrow rc0 rc1 rc2 rf0 rf1 rf2
    generalize ((((wr.alloc (.cells #[.int .u64 0, .int .u64 0, .int .u64 0] 41)).drewN (1 + nq1)).setCell ⟨wr.heap.size, 0, none⟩ (.int .u64 A)).setCell ⟨wr.heap.size, 1, none⟩ (.int .u64 t)).setCell ⟨wr.heap.size, 2, none⟩ (.int .u64 B) = w12 at H11 ⊢
    obtain ⟨bn, hbn⟩ : ∃ z, wr.heap.size = z := ⟨_, rfl⟩
    rw [hbn] at H11 hlt17 ⊢
    replace hbn := Lib.hid hbn
    replace hlt17 := Lib.hid hlt17
    clear H9
    by_cases hm : mayI A t B
    · have cC := Lib.hid (fun w => r17MayY A t B hm w)
      obtain ⟨m1, m2, m3⟩ := hm
      have c_bn_0 := H11.out.cell (b := bn) (cs := #[.int .u64 A, .int .u64 t, .int .u64 B]) (t := 41) (by simp) 0 rfl
      have c_bn_1 := H11.out.cell (b := bn) (cs := #[.int .u64 A, .int .u64 t, .int .u64 B]) (t := 41) (by simp) 1 rfl
      have c_bn_2 := H11.out.cell (b := bn) (cs := #[.int .u64 A, .int .u64 t, .int .u64 B]) (t := 41) (by simp) 2 rfl
      go_wp2_with fail
      refine (cC.out _).mono ?_
      rintro e' w13 ⟨rfl, hb13⟩
      have H13 := Lib.hid (H11.out.next hb13)
      clear c_bn_0 c_bn_1 c_bn_2
      clear hb13 H11
      have c_bn_0 := H13.out.cell (b := bn) (cs := #[.int .u64 A, .int .u64 t, .int .u64 B]) (t := 41) (by simp) 0 rfl
      have c_bn_1 := H13.out.cell (b := bn) (cs := #[.int .u64 A, .int .u64 t, .int .u64 B]) (t := 41) (by simp) 1 rfl
      have c_bn_2 := H13.out.cell (b := bn) (cs := #[.int .u64 A, .int .u64 t, .int .u64 B]) (t := 41) (by simp) 2 rfl
      have c_b1_0 := H13.out.cell (b := b1) (cs := #[.int .u64 0, .int .u64 0, .int .u64 0]) (t := 41) (by simp) 0 rfl
      have c_b1_1 := H13.out.cell (b := b1) (cs := #[.int .u64 0, .int .u64 0, .int .u64 0]) (t := 41) (by simp) 1 rfl
      have c_b1_2 := H13.out.cell (b := b1) (cs := #[.int .u64 0, .int .u64 0, .int .u64 0]) (t := 41) (by simp) 2 rfl
      have f_b1_0 := H13.out.free (b := b1) (cs := #[.int .u64 0, .int .u64 0, .int .u64 0]) (t := 41) (by simp) 0
      have f_b1_1 := H13.out.free (b := b1) (cs := #[.int .u64 0, .int .u64 0, .int .u64 0]) (t := 41) (by simp) 1
      have f_b1_2 := H13.out.free (b := b1) (cs := #[.int .u64 0, .int .u64 0, .int .u64 0]) (t := 41) (by simp) 2
      have B4 := Lib.hid (bSet (bSet (bSet H13.out.2 (b := b1) (o := 0) (u := .int .u64 A) (by have := ho.out; omega)) (b := b1) (o := 1) (u := .int .u64 t) (by have := ho.out; omega)) (b := b1) (o := 2) (u := .int .u64 B) (by have := ho.out; omega))
      have hR := (H13.out.row (b := b1) (cs := #[.int .u64 0, .int .u64 0, .int .u64 0]) (t := 41) (by simp)).set3 (v0 := .int .u64 A) (v1 := .int .u64 t) (v2 := .int .u64 B)
      have s0 := hR.cell 0 rfl
      have s1 := hR.cell 1 rfl
      have s2 := hR.cell 2 rfl
      clear hR
      go_wp2_with fail
      refine bodyPost_ret (v := .tuple #[.agg #[.int .u64 A, .int .u64 t, .int .u64 B], .bool true]) (by simp [results, Tryd.results25, go_sem, s0, s1, s2]) rfl ⟨.inl ⟨AB.out.2.2 m1 m3, by rw [AB.out.1, AB.out.2.1]⟩, B4.out⟩
    · have cC := Lib.hid (fun w => r17MayN A t B hm w)
      have hm2 := Lib.hid (fun h => hm (hback.out h))
      clear hm
      have c_bn_0 := H11.out.cell (b := bn) (cs := #[.int .u64 A, .int .u64 t, .int .u64 B]) (t := 41) (by simp) 0 rfl
      have c_bn_1 := H11.out.cell (b := bn) (cs := #[.int .u64 A, .int .u64 t, .int .u64 B]) (t := 41) (by simp) 1 rfl
      have c_bn_2 := H11.out.cell (b := bn) (cs := #[.int .u64 A, .int .u64 t, .int .u64 B]) (t := 41) (by simp) 2 rfl
      go_wp2_with fail
      refine (cC.out _).mono ?_
      rintro e' w13 ⟨rfl, hb13⟩
      have H13 := Lib.hid (H11.out.next hb13)
      clear c_bn_0 c_bn_1 c_bn_2
      clear hb13 H11
      have c_bn_0 := H13.out.cell (b := bn) (cs := #[.int .u64 A, .int .u64 t, .int .u64 B]) (t := 41) (by simp) 0 rfl
      have c_bn_1 := H13.out.cell (b := bn) (cs := #[.int .u64 A, .int .u64 t, .int .u64 B]) (t := 41) (by simp) 1 rfl
      have c_bn_2 := H13.out.cell (b := bn) (cs := #[.int .u64 A, .int .u64 t, .int .u64 B]) (t := 41) (by simp) 2 rfl
      have c_b1_0 := H13.out.cell (b := b1) (cs := #[.int .u64 0, .int .u64 0, .int .u64 0]) (t := 41) (by simp) 0 rfl
      have c_b1_1 := H13.out.cell (b := b1) (cs := #[.int .u64 0, .int .u64 0, .int .u64 0]) (t := 41) (by simp) 1 rfl
      have c_b1_2 := H13.out.cell (b := b1) (cs := #[.int .u64 0, .int .u64 0, .int .u64 0]) (t := 41) (by simp) 2 rfl
      have f_b1_0 := H13.out.free (b := b1) (cs := #[.int .u64 0, .int .u64 0, .int .u64 0]) (t := 41) (by simp) 0
      have f_b1_1 := H13.out.free (b := b1) (cs := #[.int .u64 0, .int .u64 0, .int .u64 0]) (t := 41) (by simp) 1
      have f_b1_2 := H13.out.free (b := b1) (cs := #[.int .u64 0, .int .u64 0, .int .u64 0]) (t := 41) (by simp) 2
      have B4 := Lib.hid (bSet (bSet (bSet H13.out.2 (b := b1) (o := 0) (u := .int .u64 0) (by have := ho.out; omega)) (b := b1) (o := 1) (u := .int .u64 0) (by have := ho.out; omega)) (b := b1) (o := 2) (u := .int .u64 0) (by have := ho.out; omega))
      have hR := (H13.out.row (b := b1) (cs := #[.int .u64 0, .int .u64 0, .int .u64 0]) (t := 41) (by simp)).set3 (v0 := .int .u64 0) (v1 := .int .u64 0) (v2 := .int .u64 0)
      have s0 := hR.cell 0 rfl
      have s1 := hR.cell 1 rfl
      have s2 := hR.cell 2 rfl
      clear hR
      go_wp2_with fail
      refine bodyPost_ret (v := .tuple #[.agg #[.int .u64 0, .int .u64 0, .int .u64 0], .bool false]) (by simp [results, Tryd.results25, go_sem, s0, s1, s2]) rfl ⟨.inr ⟨hm2.out, rfl⟩, B4.out⟩

end Go.Proofs.YtallfmiikjmgaaaDoor
