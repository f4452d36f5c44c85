import Derived.Test.YtiffendfojhapaaDoorZSchp
import Derived.Test.YtiffendfojhapaaDoorMB
import Derived.Deep.CutBlock
import Derived.Deep.DeepCutAuto
set_option linter.unusedVariables false
set_option linter.unusedSimpArgs false
/- Walks: the head of the statements of layer 9. -/
namespace Go.Proofs.YtiffendfojhapaaDoor
open Go.RowKit

/-- The world behind a literal of bytes. -/
def litW (W : World) (L : List Nat) : World := (W.alloc (.cells (u8s L) 5)).freeze ⟨W.heap.size, (u8s L).size, none⟩ 1
theorem lit_run (W : World) (L : List Nat) (n : Nat) (_hn : L.length = n) : (convert 22 22 (.slice (some ⟨W.heap.size, 0, none⟩) n n)).run Tryd.prog (W.alloc (.cells (u8s L) 5)) = .ok (.slice (some ⟨W.heap.size, 0, none⟩) n n) (litW W L) :=
  conv_lit (W.alloc (.cells (u8s L) 5)) W.heap.size n (u8s L) (Row.new _ _ _)
theorem lit_below (W : World) (L : List Nat) : Below W.heap.size W (litW W L) := bFreeze (bAlloc (Below.refl _ _) _) (Nat.le_refl _) _ _
theorem lit_sl (W : World) (L : List Nat) (n : Nat) (hn : L.length = n) (hm : n ≤ 1000000) : SlI (litW W L).heap.size (litW W L) (some ⟨W.heap.size, 0, none⟩) n L :=
  ⟨by omega, by omega, (fun h => by cases h), fun _ => ⟨_, _, rfl, by unfold litW; rw [size_freeze]; simp, fun i hi => by
    unfold litW
    rw [cell_freeze]
    exact (show Row _ _ (u8s L) _ from Row.new W (u8s L) 5).bl i hi⟩⟩

set_option maxRecDepth 8000 in
set_option maxHeartbeats 4000000 in
theorem up9 (w : World) (hG : RowsAt w) :
    Calls Tryd.prog 20 #[] w fun e w' => e = .returned (.bool true) ∧ Below w.heap.size w w' := by
  have hSA := Obol.smulG_S 7
  have hSP := Obol.smulG_S 5
  have hPn := Obol.keyG_ne (k := 5) (by decide) (by decide)
  have hqn := Obol.ques_ne
  have hse := Obol.sig_eq 7 (Obol.quesP (Obol.Pnt.smul 7 Obol.G) (Obol.Pnt.smul 5 Obol.G) [109]) 5
  have hzl := Obol.sigZ_lt 7 (Obol.quesP (Obol.Pnt.smul 7 Obol.G) (Obol.Pnt.smul 5 Obol.G) [109]) 5
  have H109 : B8 1 [109] := B8.of (L := [109]) (by decide)
  have H110 : B8 1 [110] := B8.of (L := [110]) (by decide)
  have c1 := fun w => sPointY 5 (by omega) (by omega) w
  have c2 := fun W (hw : Below w.heap.size w W) b hS => sSignY 5 7 (by omega) (by omega) (by omega) (by omega) (some ⟨b, 0, none⟩) 1 1 [109] H109 (by decide) W hS (hG.below hw)
  have e5 : (5 : Int).toNat = 5 := rfl
  have e7 : (7 : Int).toNat = 7 := rfl
  rw [e5] at c1
  rw [e5, e7] at c2
  have l1 := quesP_lt (Obol.Pnt.smul 7 Obol.G) (Obol.Pnt.smul 5 Obol.G) [109]
  have l2 := quesP_lt (Obol.Pnt.smul 7 Obol.G) (Obol.Pnt.smul 5 Obol.G) [110]
  generalize Obol.Pnt.smul 7 Obol.G = A at *
  generalize Obol.Pnt.smul 5 Obol.G = P at *
  have hne := Obol.smul_ne hSP hPn l1 l2 hqn
  have hbad : Obol.Pnt.smul (Obol.sigZ 7 (Obol.quesP A P [109]) 5) Obol.G ≠ A.add (Obol.Pnt.smul (Obol.quesP A P [110]) P) := fun h => hne (Obol.Pnt.add_cancel (hse.symm.trans h))
  generalize hzz : Obol.sigZ 7 (Obol.quesP A P [109]) 5 = z0 at *
  obtain ⟨ax, ay, ax0, ay0, -, -, hvA, -⟩ := coordsN A
  obtain ⟨px, py, px0, py0, -, -, hvP, -⟩ := coordsN P
  obtain ⟨z, hz⟩ : ∃ z : Int, ((z0 : Nat) : Int) = z := ⟨_, rfl⟩
  have hz0 : z.toNat = z0 := by omega
  have hnz : ¬ (px = 0 ∧ py = 1) := fun h => hPn ((zero_of hvP).2 h)
  rw [hvP] at c1
  rw [hz, sig_of hvA] at c2
  have c4 := fun W (hw : Below w.heap.size w W) b hS => sVerY px py ax ay z px0 py0 ax0 ay0 (by omega) (by omega) (some ⟨b, 0, none⟩) 1 1 hnz A P hvA hvP hSA hSP (by omega) [109] H109 (by decide) (by rw [hz0]; exact hse) W hS (hG.below hw)
  have c5 := fun W (hw : Below w.heap.size w W) b hS => sVerN px py ax ay z px0 py0 ax0 ay0 (by omega) (by omega) (some ⟨b, 0, none⟩) 1 1 hnz A P hvA hvP hSA hSP (by omega) [110] H110 (by decide) (by rw [hz0]; exact hbad) W hS (hG.below hw)
  replace c1 := Lib.hid c1
  replace c2 := Lib.hid c2
  replace c4 := Lib.hid c4
  replace c5 := Lib.hid c5
  clear hSA hSP hPn hqn hse hzl l1 l2 hne hbad hzz hvA hvP hz hz0 hnz hG ax0 ay0 px0 py0 e5 e7
  go_enter Tryd.func20, Tryd.ntmps20
  go_wp2_with fail
  refine (c1.out _).mono ?_
  rintro e w1 ⟨rfl, hb⟩
  have H1 := Lib.hid ((HR.next (HR.refl w) hb).new #[.int .u64 px, .int .u64 py] 37)
  have hbl : w.heap.size ≤ w1.heap.size := hb.size
  clear hb c1
  have hk : ∀ W : World, (convert 22 22 (.slice (some ⟨W.heap.size, 0, none⟩) 1 1)).run Tryd.prog (W.alloc (.cells #[.int .u8 109] 5)) = .ok (.slice (some ⟨W.heap.size, 0, none⟩) 1 1) (litW W [109]) := fun W => lit_run W [109] 1 rfl
  have hk1 := hk (w1.alloc (.cells #[.int .u64 px, .int .u64 py] 37))
  simp only [World.size_alloc] at hk1
  have HL := H1.out.next (lit_below _ [109])
  have hS2 := lit_sl (w1.alloc (.cells #[.int .u64 px, .int .u64 py] 37)) [109] 1 rfl (by decide)
  rw [World.size_alloc] at hS2
  go_wp2_with fail
  refine (c2.out _ HL.2 _ hS2).mono ?_
  rintro e w3 ⟨rfl, hb3⟩
  have H3 := Lib.hid ((HL.next hb3).new #[.int .u64 ax, .int .u64 ay, .int .u64 z] 44)
  clear hb3 HL hS2 H1 hk1 c2
  generalize w1.heap.size = b1 at H3 hbl ⊢
  go_wp2_with fail
  have hl3 := H3.out.lt (b := w3.heap.size) (cs := #[.int .u64 ax, .int .u64 ay, .int .u64 z]) (t := 44) (by simp)
  generalize w3.alloc (.cells #[.int .u64 ax, .int .u64 ay, .int .u64 z] 44) = w4 at H3 hl3 ⊢
  generalize w3.heap.size = b3 at H3 hl3 ⊢
  refine (sPointN 0 (by omega) (by omega) _).mono ?_
  rintro e w5 ⟨rfl, hb5⟩
  have H5 := Lib.hid (H3.out.next hb5)
  clear hb5 H3 hl3
  have H6 := Lib.hid (H5.out.alloc (.cells #[.int .u64 0, .int .u64 0] 37))
  go_upto_region 4 with fail
  generalize w5.alloc (.cells #[.int .u64 0, .int .u64 0] 37) = w6 at H6 ⊢
  have hk1 := hk w6
  have HL := Lib.hid (H6.out.next (lit_below _ [109]))
  have hS2 := Lib.hid (lit_sl w6 [109] 1 rfl (by decide))
  have hE1 := fun W => eqErrC W 1 1
  have k_b1_0 := H6.out.cell (b := b1) (cs := #[.int .u64 px, .int .u64 py]) (t := 37) (by simp) 0 rfl
  have k_b1_1 := H6.out.cell (b := b1) (cs := #[.int .u64 px, .int .u64 py]) (t := 37) (by simp) 1 rfl
  have c_b1_0 := HL.out.cell (b := b1) (cs := #[.int .u64 px, .int .u64 py]) (t := 37) (by simp) 0 rfl
  have c_b1_1 := HL.out.cell (b := b1) (cs := #[.int .u64 px, .int .u64 py]) (t := 37) (by simp) 1 rfl
  have c_b3_0 := HL.out.cell (b := b3) (cs := #[.int .u64 ax, .int .u64 ay, .int .u64 z]) (t := 44) (by simp) 0 rfl
  have c_b3_1 := HL.out.cell (b := b3) (cs := #[.int .u64 ax, .int .u64 ay, .int .u64 z]) (t := 44) (by simp) 1 rfl
  have c_b3_2 := HL.out.cell (b := b3) (cs := #[.int .u64 ax, .int .u64 ay, .int .u64 z]) (t := 44) (by simp) 2 rfl
  go_wp2_with fail
  refine (c4.out _ HL.out.2 _ hS2.out).mono ?_
  rintro e w7 ⟨rfl, hb7⟩
  have H7 := Lib.hid (HL.out.next hb7)
  clear hb7 HL hS2 H6 H5 hk1
  clear k_b1_0 k_b1_1
  clear c_b1_0 c_b1_1 c_b3_0 c_b3_1 c_b3_2
  have hk2 : (convert 22 22 (.slice (some ⟨w7.heap.size, 0, none⟩) 1 1)).run Tryd.prog (w7.alloc (.cells #[.int .u8 110] 5)) = .ok (.slice (some ⟨w7.heap.size, 0, none⟩) 1 1) (litW w7 [110]) := lit_run w7 [110] 1 rfl
  have HL := Lib.hid (H7.out.next (lit_below _ [110]))
  have hS2 := Lib.hid (lit_sl w7 [110] 1 rfl (by decide))
  have hE10 := fun W => eqErrC W 10 10
  have k_b1_0 := H7.out.cell (b := b1) (cs := #[.int .u64 px, .int .u64 py]) (t := 37) (by simp) 0 rfl
  have k_b1_1 := H7.out.cell (b := b1) (cs := #[.int .u64 px, .int .u64 py]) (t := 37) (by simp) 1 rfl
  have c_b1_0 := HL.out.cell (b := b1) (cs := #[.int .u64 px, .int .u64 py]) (t := 37) (by simp) 0 rfl
  have c_b1_1 := HL.out.cell (b := b1) (cs := #[.int .u64 px, .int .u64 py]) (t := 37) (by simp) 1 rfl
  have c_b3_0 := HL.out.cell (b := b3) (cs := #[.int .u64 ax, .int .u64 ay, .int .u64 z]) (t := 44) (by simp) 0 rfl
  have c_b3_1 := HL.out.cell (b := b3) (cs := #[.int .u64 ax, .int .u64 ay, .int .u64 z]) (t := 44) (by simp) 1 rfl
  have c_b3_2 := HL.out.cell (b := b3) (cs := #[.int .u64 ax, .int .u64 ay, .int .u64 z]) (t := 44) (by simp) 2 rfl
  go_wp2_with fail
  refine (c5.out _ HL.out.2 _ hS2.out).mono ?_
  rintro e w9 ⟨rfl, hb9⟩
  have H9 := Lib.hid (HL.out.next hb9)
  go_wp2_with fail
  go_ret
  exact ⟨rfl, H9.out.2⟩

end Go.Proofs.YtiffendfojhapaaDoor
