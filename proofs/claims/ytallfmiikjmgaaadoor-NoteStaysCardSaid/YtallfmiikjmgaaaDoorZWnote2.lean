import Derived.Test.YtallfmiikjmgaaaDoorZWnote1
import Derived.Test.YtallfmiikjmgaaaDoorMC
import Derived.Test.YtallfmiikjmgaaaDoorZWcmk
import Derived.Test.YtallfmiikjmgaaaDoorZWsum
import Derived.Test.YtallfmiikjmgaaaDoorZLaid
import Derived.Lib.AppendZeros
set_option linter.unusedVariables false
set_option linter.unusedSimpArgs false
/- Walks: package note: the key that two points make. -/
namespace Go.Proofs.YtallfmiikjmgaaaDoor
open Go.RowKit

set_option maxRecDepth 8000 in
theorem nGrow (w : World) : Calls Tryd.prog 91 #[.slice none 0 0, .int .i64 16] w fun e w' => ∃ g c, e = .returned (.slice (some ⟨g, 0, none⟩) 0 c) ∧ OwnB w' w.heap.size (.slice (some ⟨g, 0, none⟩) 0 c) [] ∧ Below w.heap.size w w' := by
  obtain ⟨ti, hti, htz, hts, htb⟩ := info_parts info8
  have hz := Lib.run_append_nil_zeros (P := Tryd.prog) w 42 3 42 5 ti (.int .u8 0) .i64 .i64 Tryd.underlying42 Tryd.underlying3 hti htz 16 (by omega) (by rw [hts]; omega) (by omega) (by rw [htb]; omega)
  have hge := grownCap_ge w 16 0 5
  have hle := grownCap_le_maxLen w 16 0 5 (by decide)
  obtain ⟨c, hc⟩ : ∃ c, grownCap w 16 0 5 = c := ⟨_, rfl⟩
  rw [hc] at hz hge hle
  obtain ⟨Z, hZ⟩ : ∃ Z, Builtin.zeroCells (Value.int .u8 0).cells 16 ++ Builtin.zeroCells (Value.int .u8 0).cells (c - 16) = Z := ⟨_, rfl⟩
  have hZs : Z.size = c := by rw [← hZ]; simp [size_zeroCells, Value.cells]; omega
  rw [hZ] at hz
  have O := Lib.hid (World.ownsRow_made (e := 5) (size := 1) w.drew Z c (Nat.le_refl _) hle (by omega))
  have B := Lib.hid (bAlloc (bDrew (Below.refl _ w)) (.cells Z 5))
  have hci : (16 : Int) ≤ (c : Int) := by omega
  clear hge hc hZ hZs
  go_enter Tryd.func91, Tryd.ntmps91
  go_wp2_with (at_builtin; refine Lib.wpList_append_run _ rfl _ _ _ _ rfl _ _ rfl rfl _ _ hz ?_)
  go_ret
  exact ⟨_, c, rfl, O.out, B.out⟩

set_option maxRecDepth 8000 in
set_option maxHeartbeats 2000000 in
theorem nConcat (bw gx gy cx cy : Nat) (X Y : List Nat) (hX : X.length = 8) (hY : Y.length = 8) (w : World) (R0 : Row w bw #[.slice (some ⟨gx, 0, none⟩) 8 cx, .slice (some ⟨gy, 0, none⟩) 8 cy] 42) (hbx : BL w gx 0 X) (hby : BL w gy 0 Y) (hgx : gx < w.heap.size) (hgy : gy < w.heap.size) :
    Calls Tryd.prog 65 #[.slice (some ⟨bw, 0, none⟩) 2 2] w fun e w' => ∃ g c, e = .returned (.slice (some ⟨g, 0, none⟩) 16 c) ∧ OwnB w' w.heap.size (.slice (some ⟨g, 0, none⟩) 16 c) (X ++ Y) ∧ Below w.heap.size w w' := by
  have R := Lib.hid R0
  have LX := Lib.hid (⟨hbx, hgx⟩ : BL w gx 0 X ∧ gx < w.heap.size)
  have LY := Lib.hid (⟨hby, hgy⟩ : BL w gy 0 Y ∧ gy < w.heap.size)
  replace hX := Lib.hid hX
  replace hY := Lib.hid hY
  clear R0 hbx hby hgx hgy
  go_enter Tryd.func65, Tryd.ntmps65
  go_wp2_with fail
  go_loopw [3, 11] (fun q1 q2 wr => ∃ j : Nat, q1 = .int .i64 ((8 * j : Nat) : Int) ∧ q2 = .int .i64 (j : Int) ∧ j ≤ 2 ∧ wr = w) (fun _ q2 _ => (2 - intOf q2).toNat)
  case atStart => exact ⟨0, rfl, rfl, by omega, rfl⟩
  case round =>
    obtain ⟨j, rfl, rfl, hj, rfl⟩ := hrel
    match j, hj with
    | 0, _ =>
      have c := R.out.cell 0 rfl
      go_wp2_with fail
      go_roundw
      case rel => exact ⟨1, rfl, rfl, by omega, by trivial⟩
      case measure => simp [intOf]
    | 1, _ =>
      have c := R.out.cell 1 rfl
      go_wp2_with fail
      go_roundw
      case rel => exact ⟨2, rfl, rfl, by omega, by trivial⟩
      case measure => simp [intOf]
    | 2, _ =>
      go_wp2_with fail
      refine (nGrow _).mono ?_
      rintro e w1 ⟨g, c, rfl, hO, hb⟩
      have O := Lib.hid hO
      have B := Lib.hid hb
      have c0 := R.out.below hb R.out.lt |>.cell 0 rfl
      obtain ⟨v2, w2, hap, hO2, hb2, -, hnil2⟩ := append_ownB w1 wr.heap.size _ [] X hO ⟨gx, 0, none⟩ 8 cx hX.out (fun i hi => by
        rw [addP, Nat.zero_add]
        have := (LX.out.1.below hb LX.out.2) i hi
        rwa [Nat.zero_add] at this) (by rw [hX.out]; decide) hb.size
      obtain ⟨g2, c2, rfl⟩ := own_shape hO2 (fun h => by cases (hnil2.1 h).1)
      rw [List.nil_append, hX.out] at hap hO2
      have B2 := Lib.hid (hb.trans hb2)
      have d1 := R.out.below B2.out R.out.lt |>.cell 1 rfl
      obtain ⟨v3, w3, hap3, hO3, hb3, -, hnil3⟩ := append_ownB w2 wr.heap.size _ X Y hO2 ⟨gy, 0, none⟩ 8 cy hY.out (fun i hi => by
        rw [addP, Nat.zero_add]
        have := (LY.out.1.below B2.out LY.out.2) i hi
        rwa [Nat.zero_add] at this) (by rw [hX.out, hY.out]; decide) B2.out.size
      obtain ⟨g3, c3, rfl⟩ := own_shape hO3 (fun h => by cases (hnil3.1 h).1)
      rw [List.length_append, hX.out, hY.out] at hap3 hO3
      have O3 := Lib.hid hO3
      have B3 := Lib.hid (B2.out.trans hb3)
      clear hO hb hO2 hb2 hnil2 hO3 hb3 hnil3 O
      go_wp2_with fail
      go_loopw [6, 27] (fun q1 q2 wr => (q2 = .int .i64 0 ∧ q1 = .slice (some ⟨g, 0, none⟩) 0 c ∧ wr = w1) ∨ (q2 = .int .i64 1 ∧ q1 = .slice (some ⟨g2, 0, none⟩) 8 c2 ∧ wr = w2) ∨ (q2 = .int .i64 2 ∧ q1 = .slice (some ⟨g3, 0, none⟩) 16 c3 ∧ wr = w3)) (fun _ q2 _ => (2 - intOf q2).toNat)
      case atStart => exact Or.inl ⟨rfl, rfl, rfl⟩
      case round =>
        rcases hrel with ⟨rfl, rfl, rfl⟩ | ⟨rfl, rfl, rfl⟩ | ⟨rfl, rfl, rfl⟩
        · go_wp2_with (at_builtin; refine wpList_appended rfl _ _ _ _ rfl _ _ _ rfl rfl hap ?_)
          go_roundw
          case rel => exact Or.inr (Or.inl ⟨rfl, by first | rfl | trivial, by first | rfl | trivial⟩)
          case measure => first | (simp [intOf]; done) | (simp [intOf]; omega)
        · go_wp2_with (at_builtin; refine wpList_appended rfl _ _ _ _ rfl _ _ _ rfl rfl hap3 ?_)
          go_roundw
          case rel => exact Or.inr (Or.inr ⟨rfl, by first | rfl | trivial, by first | rfl | trivial⟩)
          case measure => first | (simp [intOf]; done) | (simp [intOf]; omega)
        · go_wp2_with fail
          go_ret
          exact ⟨g3, c3, rfl, O3.out, B3.out⟩

abbrev notesS : ByteArray := { data := #[110, 111, 116, 101, 115] }
theorem be8_b8 (n : Nat) : B8 8 (Obol.be8 n) := ⟨rfl, fun i => by
  unfold Obol.be8
  match i with
  | 0 => exact Nat.mod_lt _ (by decide)
  | 1 => exact Nat.mod_lt _ (by decide)
  | 2 => exact Nat.mod_lt _ (by decide)
  | 3 => exact Nat.mod_lt _ (by decide)
  | 4 => exact Nat.mod_lt _ (by decide)
  | 5 => exact Nat.mod_lt _ (by decide)
  | 6 => exact Nat.mod_lt _ (by decide)
  | 7 => exact Nat.mod_lt _ (by decide)
  | _ + 8 => exact Nat.lt_of_lt_of_le (show 0 < 1 by decide) (by decide)⟩
/-- The key that two points make. -/
noncomputable def secL (p q : Nat × Nat) : List Nat := Obol.sumL (strL notesS) (Obol.be8 (Obol.codeN p) ++ Obol.be8 (Obol.codeN q))
theorem secL_b8 (p q : Nat × Nat) : B8 32 (secL p q) := sumL_b8 _ _ (strL_lt notesS)

set_option maxRecDepth 8000 in
set_option maxHeartbeats 4000000 in
theorem nShared (X Y X' Y' : Int) (hX : 0 ≤ X) (hY : 0 ≤ Y) (hX' : 0 ≤ X') (hY' : 0 ≤ Y') (hn : Obol.isN (X.toNat, Y.toNat) = true) (hn' : Obol.isN (X'.toNat, Y'.toNat) = true) (w : World) (hG : RowsAt w) :
    Calls Tryd.prog 40 #[edV X Y, edV X' Y'] w fun e w' => ∃ g c, e = .returned (.tuple #[.slice (some ⟨g, 0, none⟩) 32 c, .nilIface]) ∧ OwnB w' w.heap.size (.slice (some ⟨g, 0, none⟩) 32 c) (secL (X.toNat, Y.toNat) (X'.toNat, Y'.toNat)) ∧ Below w.heap.size w w' := by
  have c1 := Lib.hid (fun w => eWrite X Y hX hY hn w)
  have c2 := Lib.hid (fun w => eWrite X' Y' hX' hY' hn' w)
  have G := Lib.hid hG
  have hP8 : Hid (B8 8 (Obol.be8 (Obol.codeN (X.toNat, Y.toNat)))) := Lib.hid (be8_b8 _)
  have hQ8 : Hid (B8 8 (Obol.be8 (Obol.codeN (X'.toNat, Y'.toNat)))) := Lib.hid (be8_b8 _)
  have hs : Hid (secL (X.toNat, Y.toNat) (X'.toNat, Y'.toNat) = Obol.sumL (strL notesS) (Obol.be8 (Obol.codeN (X.toNat, Y.toNat)) ++ Obol.be8 (Obol.codeN (X'.toNat, Y'.toNat)))) := Lib.hid rfl
  obtain ⟨P, hP⟩ : ∃ l, Obol.be8 (Obol.codeN (X.toNat, Y.toNat)) = l := ⟨_, rfl⟩
  obtain ⟨Q, hQ⟩ : ∃ l, Obol.be8 (Obol.codeN (X'.toNat, Y'.toNat)) = l := ⟨_, rfl⟩
  rw [hP] at c1 hP8 hs
  rw [hQ] at c2 hQ8 hs
  replace hP := Lib.hid hP
  replace hQ := Lib.hid hQ
  clear hn hn' hG
  go_enter Tryd.func40, Tryd.ntmps40
  go_upto_region 1 with fail
  have H1 := Lib.hid (((HR.refl w).new #[.int .u64 X, .int .u64 Y] 29).new #[.int .u64 X', .int .u64 Y'] 29)
  simp only [World.size_alloc] at H1
  generalize (w.alloc (.cells #[.int .u64 X, .int .u64 Y] 29)).alloc (.cells #[.int .u64 X', .int .u64 Y'] 29) = w1 at H1 ⊢
  obtain ⟨b1, hb1⟩ : ∃ z, w.heap.size + 1 = z := ⟨_, rfl⟩
  obtain ⟨b0, hb0⟩ : ∃ z, w.heap.size = z := ⟨_, rfl⟩
  have H2 : Hid (HR w w1 [(b1, #[.int .u64 X', .int .u64 Y'], 29), (b0, #[.int .u64 X, .int .u64 Y], 29)]) := Lib.hid (by rw [← hb1, ← hb0]; exact H1.out)
  rw [hb1, hb0]
  replace hb0 := Lib.hid hb0
  replace hb1 := Lib.hid hb1
  clear H1
  have e0 := H2.out.cell (b := b0) (cs := #[.int .u64 X, .int .u64 Y]) (t := 29) (by simp) 0 rfl
  have e1 := H2.out.cell (b := b0) (cs := #[.int .u64 X, .int .u64 Y]) (t := 29) (by simp) 1 rfl
  go_wp2_with fail
  refine (c1.out _).mono ?_
  rintro e w2 ⟨v2, rfl, hO2, hb2⟩
  obtain ⟨g2, q2, cur2, rfl, -, -, -, -, -, -⟩ := hO2.size (by rw [hP8.out.len]; decide)
  rw [hP8.out.len] at hO2 ⊢
  have H3 := Lib.hid (H2.out.next hb2)
  have L2 := Lib.hid (⟨own_blz hO2 hP8.out.len, own_lt hO2⟩ : BL w2 g2 0 P ∧ g2 < w2.heap.size)
  clear e0 e1 hO2 hb2 H2
  have e0 := H3.out.cell (b := b1) (cs := #[.int .u64 X', .int .u64 Y']) (t := 29) (by simp) 0 rfl
  have e1 := H3.out.cell (b := b1) (cs := #[.int .u64 X', .int .u64 Y']) (t := 29) (by simp) 1 rfl
  go_wp2_with fail
  refine (c2.out _).mono ?_
  rintro e w3 ⟨v3, rfl, hO3, hb3⟩
  obtain ⟨g3, q3, cur3, rfl, -, -, -, -, -, -⟩ := hO3.size (by rw [hQ8.out.len]; decide)
  rw [hQ8.out.len] at hO3 ⊢
  have B4 := Lib.hid (bAlloc (H3.out.next hb3).2 (.cells #[.slice (some ⟨g2, 0, none⟩) 8 q2, .slice (some ⟨g3, 0, none⟩) 8 q3] 42))
  have hba : Below w3.heap.size w3 (w3.alloc (.cells #[.slice (some ⟨g2, 0, none⟩) 8 q2, .slice (some ⟨g3, 0, none⟩) 8 q3] 42)) := bAlloc (Below.refl _ _) _
  have cN := Lib.hid (nConcat w3.heap.size g2 g3 q2 q3 P Q hP8.out.len hQ8.out.len (w3.alloc (.cells #[.slice (some ⟨g2, 0, none⟩) 8 q2, .slice (some ⟨g3, 0, none⟩) 8 q3] 42)) (Row.new _ _ _)
    ((L2.out.1.below hb3 L2.out.2).below hba (Nat.lt_of_lt_of_le L2.out.2 hb3.size)) ((own_blz hO3 hQ8.out.len).below hba (own_lt hO3)) (Nat.lt_of_lt_of_le (Nat.lt_of_lt_of_le L2.out.2 hb3.size) hba.size) (Nat.lt_of_lt_of_le (own_lt hO3) hba.size))
  clear e0 e1 hO3 hb3 hba L2 H3
  go_wp2_with fail
  refine cN.out.mono ?_
  rintro e w5 ⟨g5, q5, rfl, hO5, hb5⟩
  have B5 := Lib.hid (bThen B4.out hb5 B4.out.size)
  have cS := Lib.hid (bSum2 notesS (by decide) (some ⟨g5, 0, none⟩) 16 q5 (P ++ Q) ⟨by rw [List.length_append, hP8.out.len, hQ8.out.len], Obol.lt_app hP8.out.lt hQ8.out.lt⟩ w5 (OwnB.sl hO5).2 (G.out.below B5.out))
  clear hO5 hb5 cN B4
  go_wp2_with fail
  refine cS.out.mono ?_
  rintro e w6 ⟨g6, q6, rfl, -, hO6, hb6⟩
  have B6 := Lib.hid (bThen B5.out hb6 B5.out.size)
  have O6 : Hid (OwnB w6 w.heap.size (.slice (some ⟨g6, 0, none⟩) 32 q6) (secL (X.toNat, Y.toNat) (X'.toNat, Y'.toNat))) := Lib.hid (by rw [hs.out]; exact hO6.base B5.out.size)
  clear hO6 hb6 cS
  go_wp2_with fail
  go_ret2
  exact ⟨g6, q6, rfl, O6.out, B6.out⟩

end Go.Proofs.YtallfmiikjmgaaaDoor
