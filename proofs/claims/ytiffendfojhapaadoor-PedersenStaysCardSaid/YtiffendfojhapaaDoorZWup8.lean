import Derived.Test.YtiffendfojhapaaDoorZWped2
set_option linter.unusedVariables false
set_option linter.unusedSimpArgs false
/- Walks: the head of the statements of layer 8. -/
namespace Go.Proofs.YtiffendfojhapaaDoor
open Go.RowKit

theorem slu_nil (base : Nat) (w : World) : SlU base w none 0 [] := ⟨by simp, by simp, fun _ => by simp, fun h => by simp at h⟩
theorem u64_nil : U64 0 [] := ⟨rfl, fun i => by simp⟩
theorem u64_one : U64 1 [1] := ⟨rfl, fun i => by cases i <;> simp⟩
theorem slu_one (w : World) : SlU (w.alloc (.cells #[.int .u64 1] 31)).heap.size (w.alloc (.cells #[.int .u64 1] 31)) (some ⟨w.heap.size, 0, none⟩) 1 [1] :=
  ⟨by simp, by simp, (fun h => by cases h), fun _ => ⟨_, _, rfl, by simp, fun i hi => by
    have h0 : i = 0 := by simp at hi; omega
    subst h0
    exact (show Row _ _ #[.int .u64 1] _ from Row.new w #[.int .u64 1] 31).cell 0 rfl⟩⟩
theorem com_zero : comN 0 [] 0 = some Obol.Pnt.zero := by
  obtain ⟨b, hb⟩ := base0
  rw [com_first hb]
  rfl
theorem com_one : ∃ q, comN 0 [1] 1 = some q ∧ q ≠ Obol.Pnt.zero := by
  obtain ⟨b, hb⟩ := base0
  obtain ⟨c, hc⟩ := base1
  refine ⟨c, ?_, (base_S hc).1⟩
  rw [com_next (com_first hb) hc]
  show some ((Obol.Pnt.smul 0 b).add (Obol.Pnt.smul 1 c)) = some c
  rw [show Obol.Pnt.smul 0 b = Obol.Pnt.zero from rfl, Obol.Pnt.zero_add, Obol.Pnt.smul_one]
set_option maxRecDepth 8000 in
set_option maxHeartbeats 4000000 in
theorem up8 (w : World) (hG : RowsAt w) :
    Calls Tryd.prog 35 #[] w fun e w' => e = .returned (.bool true) ∧ Below w.heap.size w w' := by
  obtain ⟨q, hq, hne⟩ := com_one
  obtain ⟨qx, qy, qx0, qy0, -, -, hvq, -⟩ := coordsN q
  have hnz : ¬ (qx = 0 ∧ qy = 1) := fun h => hne ((zero_of hvq).2 h)
  have c1 := fun W (hw : Below w.heap.size w W) => pCommitY 0 (by omega) (by omega) none 0 0 [] u64_nil (by omega) Obol.Pnt.zero com_zero W (slu_nil _ _) (hG.below hw)
  rw [zeroV] at c1
  have c2 := fun W (hw : Below w.heap.size w W) => fun b (hS : SlU W.heap.size W (some ⟨b, 0, none⟩) 1 [1]) => pCommitY 0 (by omega) (by omega) (some ⟨b, 0, none⟩) 1 1 [1] u64_one (by omega) q hq W hS (hG.below hw)
  rw [hvq] at c2
  have c3 := fun W (hw : Below w.heap.size w W) => fun b (hS : SlU W.heap.size W (some ⟨b, 0, none⟩) 1 [1]) => pOpensY qx qy 0 (some ⟨b, 0, none⟩) 1 1 (by omega) (by omega) [1] u64_one (by omega) q hq hvq W hS (hG.below hw)
  replace c1 := Lib.hid c1
  replace c2 := Lib.hid c2
  replace c3 := Lib.hid c3
  clear hG hq hne hvq qx0 qy0
  by_cases h0 : qx = 0
  · have hy : ¬ qy = 1 := fun h => hnz ⟨h0, h⟩
    subst h0
    clear hnz
    go_enter Tryd.func35, Tryd.ntmps35
    go_wp2_with fail
    refine (c1.out _ (Below.refl _ _)).mono ?_
    rintro e w1 ⟨rfl, hb⟩
    have H1 := Lib.hid ((HR.next (HR.refl w) hb).new #[.int .u64 0, .int .u64 1] 37)
    clear hb c1
    go_upto_region 2 with fail
    generalize w1.alloc (.cells #[.int .u64 0, .int .u64 1] 37) = w2 at H1 ⊢
    generalize w1.heap.size = b1 at H1 ⊢
    have HL := Lib.hid (H1.out.new #[.int .u64 1] 31)
    have hS2 := Lib.hid (slu_one w2)
    go_wp2_with fail
    refine (c2.out _ HL.out.2 _ hS2.out).mono ?_
    rintro e w3 ⟨rfl, hb3⟩
    have H3 := Lib.hid ((HL.out.next hb3).new #[.int .u64 0, .int .u64 qy] 37)
    clear hb3 HL hS2 H1 c2
    generalize w2.heap.size = b2 at H3
    go_upto_region 3 with fail
    generalize w3.alloc (.cells #[.int .u64 0, .int .u64 qy] 37) = w4 at H3 ⊢
    generalize w3.heap.size = b3 at H3 ⊢
    have HL := Lib.hid (H3.out.new #[.int .u64 1] 31)
    have hS2 := Lib.hid (slu_one w4)
    have c_b1_0 := H3.out.cell (b := b1) (cs := #[.int .u64 0, .int .u64 1]) (t := 37) (by simp) 0 rfl
    have c_b1_1 := H3.out.cell (b := b1) (cs := #[.int .u64 0, .int .u64 1]) (t := 37) (by simp) 1 rfl
    have c_b3_0 := H3.out.cell (b := b3) (cs := #[.int .u64 0, .int .u64 qy]) (t := 37) (by simp) 0 rfl
    have c_b3_1 := H3.out.cell (b := b3) (cs := #[.int .u64 0, .int .u64 qy]) (t := 37) (by simp) 1 rfl
    have d_b1_0 := HL.out.cell (b := b1) (cs := #[.int .u64 0, .int .u64 1]) (t := 37) (by simp) 0 rfl
    have d_b1_1 := HL.out.cell (b := b1) (cs := #[.int .u64 0, .int .u64 1]) (t := 37) (by simp) 1 rfl
    have d_b3_0 := HL.out.cell (b := b3) (cs := #[.int .u64 0, .int .u64 qy]) (t := 37) (by simp) 0 rfl
    have d_b3_1 := HL.out.cell (b := b3) (cs := #[.int .u64 0, .int .u64 qy]) (t := 37) (by simp) 1 rfl
    go_wp2_with fail
    refine (c3.out _ HL.out.2 _ hS2.out).mono ?_
    rintro e w7 ⟨rfl, hb7⟩
    have H7 := Lib.hid (HL.out.next hb7)
    go_wp2_with fail
    go_ret
    exact ⟨rfl, H7.out.2⟩
  · clear hnz
    go_enter Tryd.func35, Tryd.ntmps35
    go_wp2_with fail
    refine (c1.out _ (Below.refl _ _)).mono ?_
    rintro e w1 ⟨rfl, hb⟩
    have H1 := Lib.hid ((HR.next (HR.refl w) hb).new #[.int .u64 0, .int .u64 1] 37)
    clear hb c1
    go_upto_region 2 with fail
    generalize w1.alloc (.cells #[.int .u64 0, .int .u64 1] 37) = w2 at H1 ⊢
    generalize w1.heap.size = b1 at H1 ⊢
    have HL := Lib.hid (H1.out.new #[.int .u64 1] 31)
    have hS2 := Lib.hid (slu_one w2)
    go_wp2_with fail
    refine (c2.out _ HL.out.2 _ hS2.out).mono ?_
    rintro e w3 ⟨rfl, hb3⟩
    have H3 := Lib.hid ((HL.out.next hb3).new #[.int .u64 qx, .int .u64 qy] 37)
    clear hb3 HL hS2 H1 c2
    generalize w2.heap.size = b2 at H3
    go_upto_region 3 with fail
    generalize w3.alloc (.cells #[.int .u64 qx, .int .u64 qy] 37) = w4 at H3 ⊢
    generalize w3.heap.size = b3 at H3 ⊢
    have HL := Lib.hid (H3.out.new #[.int .u64 1] 31)
    have hS2 := Lib.hid (slu_one w4)
    have c_b1_0 := H3.out.cell (b := b1) (cs := #[.int .u64 0, .int .u64 1]) (t := 37) (by simp) 0 rfl
    have c_b1_1 := H3.out.cell (b := b1) (cs := #[.int .u64 0, .int .u64 1]) (t := 37) (by simp) 1 rfl
    have c_b3_0 := H3.out.cell (b := b3) (cs := #[.int .u64 qx, .int .u64 qy]) (t := 37) (by simp) 0 rfl
    have c_b3_1 := H3.out.cell (b := b3) (cs := #[.int .u64 qx, .int .u64 qy]) (t := 37) (by simp) 1 rfl
    have d_b1_0 := HL.out.cell (b := b1) (cs := #[.int .u64 0, .int .u64 1]) (t := 37) (by simp) 0 rfl
    have d_b1_1 := HL.out.cell (b := b1) (cs := #[.int .u64 0, .int .u64 1]) (t := 37) (by simp) 1 rfl
    have d_b3_0 := HL.out.cell (b := b3) (cs := #[.int .u64 qx, .int .u64 qy]) (t := 37) (by simp) 0 rfl
    have d_b3_1 := HL.out.cell (b := b3) (cs := #[.int .u64 qx, .int .u64 qy]) (t := 37) (by simp) 1 rfl
    go_wp2_with fail
    refine (c3.out _ HL.out.2 _ hS2.out).mono ?_
    rintro e w7 ⟨rfl, hb7⟩
    have H7 := Lib.hid (HL.out.next hb7)
    go_wp2_with fail
    go_ret
    exact ⟨rfl, H7.out.2⟩

end Go.Proofs.YtiffendfojhapaaDoor
