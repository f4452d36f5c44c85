import Derived.Test.YtallfmiikjmgaaaDoorZWref17
import Derived.Test.YtallfmiikjmgaaaDoorZWrsum
set_option linter.unusedVariables false
set_option linter.unusedSimpArgs false
/- Walks: the reference of layer 17: the secret, the body. -/
namespace Go.Proofs.YtallfmiikjmgaaaDoor
open Go.RowKit

theorem own_row8 {w : World} {g : Nat} {L : List Nat} (h : Row w g (u8s L) 5) (base : Nat) (hb : base ≤ g) (hl : L.length ≤ 1000000) : OwnB w base (.slice (some ⟨g, 0, none⟩) L.length L.length) L :=
  ⟨by simp, .inr ⟨g, L.length, u8s L, rfl, hb, h, Nat.le_refl _, by unfold maxLen; omega, by rw [u8s_size, Nat.mul_one], by unfold u8s; rw [Nat.mul_one]; exact List.take_of_length_le (by simp)⟩⟩
set_option maxRecDepth 8000 in
set_option maxHeartbeats 2000000 in
theorem r17Secret (ax ay px py : Int) (ax0 : 0 ≤ ax) (ay0 : 0 ≤ ay) (px0 : 0 ≤ px) (py0 : 0 ≤ py) (ax1 : ax < 288230376287764481) (ay1 : ay < 288230376287764481) (px1 : px < 288230376287764481) (py1 : py < 288230376287764481) (w : World) :
    Calls Tryd.prog 22 #[edV ax ay, edV px py] w fun e w' => ∃ g c, e = .returned (.slice (some ⟨g, 0, none⟩) 32 c) ∧ OwnB w' w.heap.size (.slice (some ⟨g, 0, none⟩) 32 c) (secL (ax.toNat, ay.toNat) (px.toNat, py.toNat)) ∧ Below w.heap.size w w' := by
  have cA := Lib.hid (fun w => r7Bytes ax ay ax0 (by omega) ay0 (by omega) w)
  have cP := Lib.hid (fun w => r7Bytes px py px0 (by omega) py0 (by omega) w)
  clear ax1 ay1 px1 py1
  go_enter Tryd.func22, Tryd.ntmps22
  go_upto_region 1 with fail
  have H0 := Lib.hid (((HR.refl w).new #[.int .u64 ax, .int .u64 ay] 29).new #[.int .u64 px, .int .u64 py] 29)
  rw [World.size_alloc] at H0
  generalize (w.alloc (.cells #[.int .u64 ax, .int .u64 ay] 29)).alloc (.cells #[.int .u64 px, .int .u64 py] 29) = w2 at H0 ⊢
  have hbw : w.heap.size + 1 < w2.heap.size := H0.out.lt (b := w.heap.size + 1) (cs := #[.int .u64 px, .int .u64 py]) (t := 29) (by simp)
  generalize hb4 : w.heap.size + 1 = b4 at H0 hbw ⊢
  generalize hb3 : w.heap.size = b3 at H0 ⊢
  have hbs : Hid (b3 < b4 ∧ w.heap.size = b3) := Lib.hid (by omega)
  clear hb4 hb3
  refine wp_region_noPanic ?_
  refine wp_region_held_drew (S := fun wq => wq.cell? ⟨b4, 0, none⟩ = some (.int .u64 px) ∧ wq.cell? ⟨b4, 1, none⟩ = some (.int .u64 py) ∧ wq.cell? ⟨b3, 0, none⟩ = some (.int .u64 ax) ∧ wq.cell? ⟨b3, 1, none⟩ = some (.int .u64 ay) ∧ HR w wq [(b4, #[.int .u64 px, .int .u64 py], 29), (b3, #[.int .u64 ax, .int .u64 ay], 29)]) (by kernel_rfl) ?_ (fun hHeld => ?_)
  · have hq0 := HR.drew H0.out
    exact ⟨HR.cell hq0 (b := b4) (cs := #[.int .u64 px, .int .u64 py]) (t := 29) (by simp) 0 rfl, HR.cell hq0 (b := b4) (cs := #[.int .u64 px, .int .u64 py]) (t := 29) (by simp) 1 rfl, HR.cell hq0 (b := b3) (cs := #[.int .u64 ax, .int .u64 ay]) (t := 29) (by simp) 0 rfl, HR.cell hq0 (b := b3) (cs := #[.int .u64 ax, .int .u64 ay]) (t := 29) (by simp) 1 rfl, hq0⟩
  refine takeH 0 (fun _ _ _ _ _ h => h) (by kernel_rfl) hHeld rfl (by kernel_rfl) (by rfl) (v := ?_) ?_ ?_
  rotate_left
  ((intro wz hz; (try dsimp only at hz); go_simp) <;> with_reducible rfl)
  try simp only [Act.put, List.setIfInBounds_toArray, List.set_cons_zero, List.set_cons_succ]
  refine takeH 2 (fun _ _ _ _ _ h => h) (by kernel_rfl) hHeld rfl (by kernel_rfl) (by rfl) (v := ?_) ?_ ?_
  rotate_left
  ((intro wz hz; (try dsimp only at hz); go_simp) <;> with_reducible rfl)
  try simp only [Act.put, List.setIfInBounds_toArray, List.set_cons_zero, List.set_cons_succ]
  refine stepH 1 (by kernel_rfl) rfl (by rfl) (fun K hK => ?_)
  go_simp
  refine (cA.out _).mono ?_
  rintro e wc1 ⟨g1, rfl, hg1, R1, hbc1⟩
  have hrc1 := HR.next hHeld.2.2.2.2 hbc1
  have RA := Lib.hid R1
  refine hK.out _ _ ?_ (fun hHeld => ?_)
  · exact ⟨HR.cell hrc1 (b := b4) (cs := #[.int .u64 px, .int .u64 py]) (t := 29) (by simp) 0 rfl, HR.cell hrc1 (b := b4) (cs := #[.int .u64 px, .int .u64 py]) (t := 29) (by simp) 1 rfl, HR.cell hrc1 (b := b3) (cs := #[.int .u64 ax, .int .u64 ay]) (t := 29) (by simp) 0 rfl, HR.cell hrc1 (b := b3) (cs := #[.int .u64 ax, .int .u64 ay]) (t := 29) (by simp) 1 rfl, hrc1⟩
  clear hK K
  try simp only [Act.put, List.setIfInBounds_toArray, List.set_cons_zero, List.set_cons_succ]
  refine stepH 3 (by kernel_rfl) rfl (by rfl) (fun K hK => ?_)
  go_simp
  refine (cP.out _).mono ?_
  rintro e wc2 ⟨g2, rfl, hg2, R2, hbc2⟩
  have hrc2 := HR.next hHeld.2.2.2.2 hbc2
  have RB := Lib.hid R2
  have RA2 := RA.out.below hbc2 RA.out.lt
  refine hK.out _ _ ?_ (fun hHeld => ?_)
  · exact ⟨HR.cell hrc2 (b := b4) (cs := #[.int .u64 px, .int .u64 py]) (t := 29) (by simp) 0 rfl, HR.cell hrc2 (b := b4) (cs := #[.int .u64 px, .int .u64 py]) (t := 29) (by simp) 1 rfl, HR.cell hrc2 (b := b3) (cs := #[.int .u64 ax, .int .u64 ay]) (t := 29) (by simp) 0 rfl, HR.cell hrc2 (b := b3) (cs := #[.int .u64 ax, .int .u64 ay]) (t := 29) (by simp) 1 rfl, hrc2⟩
  clear hK K
  try simp only [Act.put, List.setIfInBounds_toArray, List.set_cons_zero, List.set_cons_succ]
  have hO1 := own_row8 RA2 w.heap.size (by have := hrc1.2.size; have := hbs.out; exact Nat.le_trans (Nat.le_trans (by omega : w.heap.size ≤ w2.heap.size) (Nat.le_refl _)) hg1) (by show 8 ≤ 1000000; decide)
  obtain ⟨va, wa', hra, hOa, hba, hga, -⟩ := append_ownB wc2 w.heap.size _ _ (Obol.be8 (Obol.codeN (px.toNat, py.toNat))) hO1 ⟨g2, 0, none⟩ 8 8 rfl (fun k hk => by rw [addB]; exact R2.bl k hk) (by show 8 + 8 ≤ 140737488355328; decide) hrc2.2.size
  obtain ⟨g3, c3, cur3, rfl, -, -, -, -, -, -⟩ := hOa.size (by show 0 < 8 + 8; decide)
  have hsr := (OwnB.sl hOa).2.arg
  refine stepH 4 (by kernel_rfl) rfl (by rfl) (fun K hK => ?_)
  refine wp_appended _ _ _ _ rfl _ _ _ rfl rfl hra ?_
  have hd0 : w2.drew.heap.size = w2.heap.size := rfl
  have hd1 := hbs.out
  have hrcA : HR w wa' [(b4, #[.int .u64 px, .int .u64 py], 29), (b3, #[.int .u64 ax, .int .u64 ay], 29)] := ⟨fun r hr => (hga.block r.1 (hrc2.1 r hr).lt (fun h => by simp at hr; rcases hr with rfl | rfl <;> simp [Value.ownBlock] at h <;> omega)).trans (hrc2.1 r hr), hrc2.2.trans hba⟩
  refine hK.out _ _ ?_ (fun hHeld => ?_)
  · exact ⟨HR.cell hrcA (b := b4) (cs := #[.int .u64 px, .int .u64 py]) (t := 29) (by simp) 0 rfl, HR.cell hrcA (b := b4) (cs := #[.int .u64 px, .int .u64 py]) (t := 29) (by simp) 1 rfl, HR.cell hrcA (b := b3) (cs := #[.int .u64 ax, .int .u64 ay]) (t := 29) (by simp) 0 rfl, HR.cell hrcA (b := b3) (cs := #[.int .u64 ax, .int .u64 ay]) (t := 29) (by simp) 1 rfl, hrcA⟩
  clear hK K
  try simp only [Act.put, List.setIfInBounds_toArray, List.set_cons_zero, List.set_cons_succ]
  have cS := Lib.hid (r5Sum notesS (by decide) (some ⟨g3, 0, none⟩) 16 c3 _ (show B8 16 (Obol.be8 _ ++ Obol.be8 _) from noteT_b8 _ _) (by omega) wa' hsr.1 hsr.2)
  clear hra hOa hba hga hsr hO1
  refine stepH 5 (by kernel_rfl) rfl (by rfl) (fun K hK => ?_)
  go_simp
  refine (cS.out).mono ?_
  rintro e wc3 ⟨g4, c4, rfl, hO4, hbc3⟩
  have hrc3 := HR.next hHeld.2.2.2.2 hbc3
  refine hK.out _ _ ?_ (fun hHeld => ?_)
  · exact ⟨HR.cell hrc3 (b := b4) (cs := #[.int .u64 px, .int .u64 py]) (t := 29) (by simp) 0 rfl, HR.cell hrc3 (b := b4) (cs := #[.int .u64 px, .int .u64 py]) (t := 29) (by simp) 1 rfl, HR.cell hrc3 (b := b3) (cs := #[.int .u64 ax, .int .u64 ay]) (t := 29) (by simp) 0 rfl, HR.cell hrc3 (b := b3) (cs := #[.int .u64 ax, .int .u64 ay]) (t := 29) (by simp) 1 rfl, hrc3⟩
  clear hK K
  try simp only [Act.put, List.setIfInBounds_toArray, List.set_cons_zero, List.set_cons_succ]
  refine takeH 6 (fun _ _ _ _ _ h => h) (by kernel_rfl) hHeld rfl (by kernel_rfl) (by rfl) (v := ?_) ?_ ?_
  rotate_left
  ((intro wz hz; (try dsimp only at hz); go_simp) <;> with_reducible rfl)
  try simp only [Act.put, List.setIfInBounds_toArray, List.set_cons_zero, List.set_cons_succ]
  refine wpAnyH_done (by kernel_rfl) (NoPanic.normal ?_) _
  have O := Lib.hid (hO4.base hrcA.2.size)
  go_wp2_with fail
  go_ret
  exact ⟨g4, c4, rfl, O.out, hHeld.2.2.2.2.2⟩
set_option maxRecDepth 8000 in
set_option maxHeartbeats 4000000 in
theorem r17Body (bk ok ck : Nat) (K : List Nat) (HK0 : B8 32 K) (v o r : Int) (v0 : 0 ≤ v) (v1 : v ≤ 18446744073709551615) (r0 : 0 ≤ r) (r1 : r ≤ 18446744073709551615) (w : World) (hbk0 : bk < w.heap.size) (hBK0 : BL w bk ok K) :
    Calls Tryd.prog 23 #[.slice (some ⟨bk, ok, none⟩) 32 ck, ntV v o r] w fun e w' => ∃ g c, e = .returned (.slice (some ⟨g, 0, none⟩) 32 c) ∧ OwnB w' w.heap.size (.slice (some ⟨g, 0, none⟩) 32 c) (bodyL K v.toNat r.toNat) ∧ Below w.heap.size w w' := by
  have cV := Lib.hid (fun w => r2Bytes v v0 v1 w)
  have cR := Lib.hid (fun w => r2Bytes r r0 r1 w)
  have HK := Lib.hid HK0
  have hbk := Lib.hid hbk0
  have hBK := Lib.hid hBK0
  have hz12 : Hid (B8 12 z12) := Lib.hid (cp0_b8 12)
  have mk12 : ∀ W, (Instr.makeSlice 42 (.int .i64 12) (.int .i64 12)).run Tryd.prog W = .ok (.slice (some ⟨W.heap.size, 0, none⟩) 12 12) (W.alloc (.cells (u8s z12) 5)) := fun W => make8 12 (by omega) W
  clear hbk0 hBK0 HK0
  go_enter Tryd.func23, Tryd.ntmps23
  go_upto_region 2 with fail
  have hz := ((HR.refl w).new #[.int .u64 v, .int .u64 o, .int .u64 r] 41).new (u8s z12) 5
  rw [World.size_alloc] at hz
  generalize (w.alloc (.cells #[.int .u64 v, .int .u64 o, .int .u64 r] 41)).alloc (.cells (u8s z12) 5) = w2 at hz ⊢
  have hbw : w.heap.size + 1 < w2.heap.size := hz.lt (b := w.heap.size + 1) (cs := u8s z12) (t := 5) (by simp)
  generalize hb5 : w.heap.size + 1 = b5 at hz hbw ⊢
  generalize hb3 : w.heap.size = b3 at hz ⊢
  have hbs : Hid (b3 < b5 ∧ w.heap.size = b3 ∧ b5 < w2.heap.size) := Lib.hid (by omega)
  have H0 : Hid (HR w w2 [(b3, #[.int .u64 v, .int .u64 o, .int .u64 r], 41)]) := Lib.hid hz.tail
  have RZ : Hid (Row w2 b5 (u8s z12) 5) := Lib.hid (hz.row (by simp))
  clear hb5 hb3 hz mk12
  refine wp_region_noPanic ?_
  refine wp_region_held_drew (S := fun wq => wq.cell? ⟨b3, 0, none⟩ = some (.int .u64 v) ∧ wq.cell? ⟨b3, 1, none⟩ = some (.int .u64 o) ∧ wq.cell? ⟨b3, 2, none⟩ = some (.int .u64 r) ∧ Row wq b5 (u8s z12) 5 ∧ HR w wq [(b3, #[.int .u64 v, .int .u64 o, .int .u64 r], 41)]) (by kernel_rfl) ?_ (fun hHeld => ?_)
  · have hq0 := HR.drew H0.out
    exact ⟨HR.cell hq0 (b := b3) (cs := #[.int .u64 v, .int .u64 o, .int .u64 r]) (t := 41) (by simp) 0 rfl, HR.cell hq0 (b := b3) (cs := #[.int .u64 v, .int .u64 o, .int .u64 r]) (t := 41) (by simp) 1 rfl, HR.cell hq0 (b := b3) (cs := #[.int .u64 v, .int .u64 o, .int .u64 r]) (t := 41) (by simp) 2 rfl, (Row.drew RZ.out), hq0⟩
  refine takeH 0 (fun _ _ _ _ _ h => h) (by kernel_rfl) hHeld rfl (by kernel_rfl) (by rfl) (v := ?_) ?_ ?_
  rotate_left
  ((intro wz hz; (try dsimp only at hz); go_simp) <;> with_reducible rfl)
  try simp only [Act.put, List.setIfInBounds_toArray, List.set_cons_zero, List.set_cons_succ]
  refine takeH 1 (fun _ _ _ _ _ h => h) (by kernel_rfl) hHeld rfl (by kernel_rfl) (by rfl) (v := ?_) ?_ ?_
  rotate_left
  ((intro wz hz; (try dsimp only at hz); go_simp) <;> with_reducible rfl)
  try simp only [Act.put, List.setIfInBounds_toArray, List.set_cons_zero, List.set_cons_succ]
  refine takeH 2 (fun _ _ _ _ _ h => h) (by kernel_rfl) hHeld rfl (by kernel_rfl) (by rfl) (v := ?_) ?_ ?_
  rotate_left
  ((intro wz hz; (try dsimp only at hz); go_simp) <;> with_reducible rfl)
  try simp only [Act.put, List.setIfInBounds_toArray, List.set_cons_zero, List.set_cons_succ]
  refine takeH 3 (fun _ _ _ _ _ h => h) (by kernel_rfl) hHeld rfl (by kernel_rfl) (by rfl) (v := ?_) ?_ ?_
  rotate_left
  ((intro wz hz; (try dsimp only at hz); go_simp) <;> with_reducible rfl)
  try simp only [Act.put, List.setIfInBounds_toArray, List.set_cons_zero, List.set_cons_succ]
  refine takeH 5 (fun _ _ _ _ _ h => h) (by kernel_rfl) hHeld rfl (by kernel_rfl) (by rfl) (v := ?_) ?_ ?_
  rotate_left
  ((intro wz hz; (try dsimp only at hz); go_simp) <;> with_reducible rfl)
  try simp only [Act.put, List.setIfInBounds_toArray, List.set_cons_zero, List.set_cons_succ]
  refine takeH 6 (fun _ _ _ _ _ h => h) (by kernel_rfl) hHeld rfl (by kernel_rfl) (by rfl) (v := ?_) ?_ ?_
  rotate_left
  ((intro wz hz; (try dsimp only at hz); go_simp) <;> with_reducible rfl)
  try simp only [Act.put, List.setIfInBounds_toArray, List.set_cons_zero, List.set_cons_succ]
  refine stepH 4 (by kernel_rfl) rfl (by rfl) (fun K hK => ?_)
  go_simp
  refine (cV.out _).mono ?_
  rintro e wc1 ⟨rfl, R1, hbc1⟩
  have hrc1 := HR.next hHeld.2.2.2.2 hbc1
  have RA := Lib.hid R1
  refine hK.out _ _ ?_ (fun hHeld => ?_)
  · exact ⟨HR.cell hrc1 (b := b3) (cs := #[.int .u64 v, .int .u64 o, .int .u64 r]) (t := 41) (by simp) 0 rfl, HR.cell hrc1 (b := b3) (cs := #[.int .u64 v, .int .u64 o, .int .u64 r]) (t := 41) (by simp) 1 rfl, HR.cell hrc1 (b := b3) (cs := #[.int .u64 v, .int .u64 o, .int .u64 r]) (t := 41) (by simp) 2 rfl, (hHeld.2.2.2.1.below hbc1 hHeld.2.2.2.1.lt), hrc1⟩
  clear hK K
  try simp only [Act.put, List.setIfInBounds_toArray, List.set_cons_zero, List.set_cons_succ]
  refine stepH 7 (by kernel_rfl) rfl (by rfl) (fun K hK => ?_)
  go_simp
  refine (cR.out _).mono ?_
  rintro e wc2 ⟨rfl, R2, hbc2⟩
  have hrc2 := HR.next hHeld.2.2.2.2 hbc2
  have RB := Lib.hid R2
  have RA2 := RA.out.below hbc2 RA.out.lt
  refine hK.out _ _ ?_ (fun hHeld => ?_)
  · exact ⟨HR.cell hrc2 (b := b3) (cs := #[.int .u64 v, .int .u64 o, .int .u64 r]) (t := 41) (by simp) 0 rfl, HR.cell hrc2 (b := b3) (cs := #[.int .u64 v, .int .u64 o, .int .u64 r]) (t := 41) (by simp) 1 rfl, HR.cell hrc2 (b := b3) (cs := #[.int .u64 v, .int .u64 o, .int .u64 r]) (t := 41) (by simp) 2 rfl, (hHeld.2.2.2.1.below hbc2 hHeld.2.2.2.1.lt), hrc2⟩
  clear hK K
  try simp only [Act.put, List.setIfInBounds_toArray, List.set_cons_zero, List.set_cons_succ]
  have hd0 : w2.drew.heap.size = w2.heap.size := rfl
  have hd1 := hbs.out
  have hO1 := own_row8 RA2 w.heap.size (by omega) (by show 8 ≤ 1000000; decide)
  obtain ⟨va, wa', hra, hOa, hba, hga, -⟩ := append_ownB wc2 w.heap.size _ _ (Obol.be8 r.toNat) hO1 ⟨wc1.heap.size, 0, none⟩ 8 8 rfl (fun k hk => by rw [addB]; exact R2.bl k hk) (by show 8 + 8 ≤ 140737488355328; decide) hrc2.2.size
  obtain ⟨g3, c3, cur3, rfl, -, -, -, -, -, -⟩ := hOa.size (by show 0 < 8 + 8; decide)
  have hsr := (OwnB.sl hOa).2
  have hrcA : HR w wa' [(b3, #[.int .u64 v, .int .u64 o, .int .u64 r], 41)] := ⟨fun q hq => (hga.block q.1 (hrc2.1 q hq).lt (fun h => by simp at hq; subst hq; simp [Value.ownBlock] at h; omega)).trans (hrc2.1 q hq), hrc2.2.trans hba⟩
  have RZA : Row wa' b5 (u8s z12) 5 := (hga.block b5 (hHeld.2.2.2.1).lt (fun h => by simp [Value.ownBlock] at h; omega)).trans (hHeld.2.2.2.1)
  refine stepH 8 (by kernel_rfl) rfl (by rfl) (fun K hK => ?_)
  refine wp_appended _ _ _ _ rfl _ _ _ rfl rfl hra ?_
  refine hK.out _ _ ?_ (fun hHeld => ?_)
  · exact ⟨HR.cell hrcA (b := b3) (cs := #[.int .u64 v, .int .u64 o, .int .u64 r]) (t := 41) (by simp) 0 rfl, HR.cell hrcA (b := b3) (cs := #[.int .u64 v, .int .u64 o, .int .u64 r]) (t := 41) (by simp) 1 rfl, HR.cell hrcA (b := b3) (cs := #[.int .u64 v, .int .u64 o, .int .u64 r]) (t := 41) (by simp) 2 rfl, RZA, hrcA⟩
  clear hK K
  try simp only [Act.put, List.setIfInBounds_toArray, List.set_cons_zero, List.set_cons_succ]
  have cS := Lib.hid (rStream bk ok ck b5 0 12 K z12 HK.out hz12.out (some ⟨g3, 0, none⟩) 16 c3 _ (noteT_b8 v.toNat r.toNat) (by omega) (fun h => by cases h) wa' (Nat.lt_of_lt_of_le hbk.out hrcA.2.size) RZA.lt (hBK.out.below hrcA.2 hbk.out) RZA.bl (fun h => hsr.bl h))
  have hwa := Lib.hid hrcA.2.size
  clear hra hOa hba hga hsr hO1
  refine stepH 9 (by kernel_rfl) rfl (by rfl) (fun K hK => ?_)
  go_simp
  refine (cS.out).mono ?_
  rintro e wc3 ⟨rfl, RC, hbc3⟩
  have hrc3 := HR.next hHeld.2.2.2.2 hbc3
  have RC := Lib.hid RC
  refine hK.out _ _ ?_ (fun hHeld => ?_)
  · exact ⟨HR.cell hrc3 (b := b3) (cs := #[.int .u64 v, .int .u64 o, .int .u64 r]) (t := 41) (by simp) 0 rfl, HR.cell hrc3 (b := b3) (cs := #[.int .u64 v, .int .u64 o, .int .u64 r]) (t := 41) (by simp) 1 rfl, HR.cell hrc3 (b := b3) (cs := #[.int .u64 v, .int .u64 o, .int .u64 r]) (t := 41) (by simp) 2 rfl, (hHeld.2.2.2.1.below hbc3 hHeld.2.2.2.1.lt), hrc3⟩
  clear hK K
  try simp only [Act.put, List.setIfInBounds_toArray, List.set_cons_zero, List.set_cons_succ]
  refine takeH 10 (fun _ _ _ _ _ h => h) (by kernel_rfl) hHeld rfl (by kernel_rfl) (by rfl) (v := ?_) ?_ ?_
  rotate_left
  ((intro wz hz; (try dsimp only at hz); go_simp) <;> with_reducible rfl)
  try simp only [Act.put, List.setIfInBounds_toArray, List.set_cons_zero, List.set_cons_succ]
  refine wpAnyH_done (by kernel_rfl) (NoPanic.normal ?_) _
  have H3 := Lib.hid hHeld.2.2.2.2
  have RZ3 := Lib.hid hHeld.2.2.2.1
  have RC3 := Lib.hid (show Row wc3 wa'.heap.size (u8s (Obol.strm K z12 (noteT v.toNat r.toNat))) 5 from by
    have h := RC.out
    rw [show (16 : Nat) = (noteT v.toNat r.toNat).length from (noteT_b8 _ _).len.symm, Obol.strm_ref] at h
    exact h)
  have hC16 : (Obol.strm K z12 (noteT v.toNat r.toNat)).length = 16 := by rw [Obol.strm_len]; exact (noteT_b8 _ _).len
  have hCb := Obol.strm_lt K z12 (noteT_b8 v.toNat r.toNat).lt
  obtain ⟨C, hC⟩ : ∃ l, Obol.strm K z12 (noteT v.toNat r.toNat) = l := ⟨_, rfl⟩
  rw [hC] at RC3 hC16 hCb
  have hO3 := own_row8 RC3.out w.heap.size hwa.out (by omega)
  rw [hC16] at hO3
  have O3 := Lib.hid hO3
  have cB := Lib.hid (rBoth bk ok ck b5 0 12 K z12 HK.out hz12.out (.slice none 0 0) (.slice (some ⟨wa'.heap.size, 0, none⟩) 16 16) [] C wc3 (Nat.lt_of_lt_of_le hbk.out H3.out.2.size) RZ3.out.lt (hBK.out.below H3.out.2 hbk.out) RZ3.out.bl (seg_nil _ _) ((OwnB.sl hO3).2.seg ⟨hC16, hCb⟩ (by omega)))
  replace hC := Lib.hid hC
  replace hC16 := Lib.hid hC16
  clear hO3 hCb RC RC3
  go_wp2_with fail
  refine cB.out.mono ?_
  rintro e w4 ⟨g4, rfl, R4, hg4, hb4⟩
  have hB4 := bThen H3.out.2 hb4 H3.out.2.size
  obtain ⟨va, w5, hra, hOa, hba, -, -⟩ := append_ownB w4 w.heap.size _ C (Obol.bothL K z12 [] C) (O3.out.below hb4) ⟨g4, 0, none⟩ 16 16 (Obol.bothL_len _ _ _ _) (fun k hk => by rw [addB]; exact R4.bl k hk) (by rw [hC16.out, Obol.bothL_len]; decide) hB4.size
  have hl32 : (C ++ Obol.bothL K z12 [] C).length = 32 := by rw [List.length_append, hC16.out, Obol.bothL_len]
  obtain ⟨g5, c5, cur5, rfl, -, -, -, -, -, -⟩ := hOa.size (by rw [hl32]; decide)
  rw [hl32] at hOa hra
  have O5 : Hid (OwnB w5 w.heap.size (.slice (some ⟨g5, 0, none⟩) 32 c5) (bodyL K v.toNat r.toNat)) := Lib.hid (by unfold bodyL; rw [hC.out]; exact hOa)
  have B5 := Lib.hid (hB4.trans hba)
  clear hOa hba hl32 hB4 hb4 R4 hg4 O3
  go_wp2_with (at_builtin; refine wpList_appended rfl _ _ _ _ rfl _ _ _ rfl rfl hra ?_)
  go_ret
  exact ⟨g5, c5, rfl, O5.out, B5.out⟩

end Go.Proofs.YtallfmiikjmgaaaDoor
