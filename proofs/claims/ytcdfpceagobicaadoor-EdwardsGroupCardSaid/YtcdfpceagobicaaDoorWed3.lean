import Derived.Test.YtcdfpceagobicaaDoorWed2
import Derived.Deep.CutBlock
import Derived.Deep.DeepCutAuto
import Derived.BigRegion
/- Walks: package edwards: multiples. -/
namespace Go.Proofs.YtcdfpceagobicaaDoor
open Go.RowKit

structure MulI (A : Obol.Pt) (K : Nat) (ox oy oz bx by' bz en : Int) : Prop where
  o1 : 0 ≤ ox
  o2 : 0 ≤ oy
  o3 : 0 ≤ oz
  b1 : 0 ≤ bx
  b2 : 0 ≤ by'
  b3 : 0 ≤ bz
  e0 : 0 ≤ en
  e1 : en ≤ 18446744073709551615
  inv : Obol.MulInv A K (ox.toNat, oy.toNat, oz.toNat) (bx.toNat, by'.toNat, bz.toNat) en.toNat

abbrev t1 (t : Nat × Nat × Nat) : Int := (t.1 : Nat)
abbrev t2 (t : Nat × Nat × Nat) : Int := (t.2.1 : Nat)
abbrev t3 (t : Nat × Nat × Nat) : Int := (t.2.2 : Nat)

theorem MulI.one {A : Obol.Pt} {K : Nat} {ox oy oz bx by' bz en : Int} (h : MulI A K ox oy oz bx by' bz en) (ho : en % 2 = 1) :
    MulI A K ((Obol.togN (ox.toNat, oy.toNat, oz.toNat) (bx.toNat, by'.toNat, bz.toNat)).1 : Nat) ((Obol.togN (ox.toNat, oy.toNat, oz.toNat) (bx.toNat, by'.toNat, bz.toNat)).2.1 : Nat)
      ((Obol.togN (ox.toNat, oy.toNat, oz.toNat) (bx.toNat, by'.toNat, bz.toNat)).2.2 : Nat) ((Obol.togN (bx.toNat, by'.toNat, bz.toNat) (bx.toNat, by'.toNat, bz.toNat)).1 : Nat)
      ((Obol.togN (bx.toNat, by'.toNat, bz.toNat) (bx.toNat, by'.toNat, bz.toNat)).2.1 : Nat) ((Obol.togN (bx.toNat, by'.toNat, bz.toNat) (bx.toNat, by'.toNat, bz.toNat)).2.2 : Nat) (en / 2) := by
  have h0 := h.e0
  have h1 := h.e1
  refine ⟨by omega, by omega, by omega, by omega, by omega, by omega, by omega, by omega, ?_⟩
  have := h.inv.one (by omega)
  rw [Int.toNat_natCast, Int.toNat_natCast, Int.toNat_natCast, Int.toNat_natCast, Int.toNat_natCast, Int.toNat_natCast, show (en / 2).toNat = en.toNat / 2 by omega]
  exact this
theorem MulI.zero {A : Obol.Pt} {K : Nat} {ox oy oz bx by' bz en : Int} (h : MulI A K ox oy oz bx by' bz en) (ho : en % 2 = 0) :
    MulI A K ox oy oz ((Obol.togN (bx.toNat, by'.toNat, bz.toNat) (bx.toNat, by'.toNat, bz.toNat)).1 : Nat)
      ((Obol.togN (bx.toNat, by'.toNat, bz.toNat) (bx.toNat, by'.toNat, bz.toNat)).2.1 : Nat) ((Obol.togN (bx.toNat, by'.toNat, bz.toNat) (bx.toNat, by'.toNat, bz.toNat)).2.2 : Nat) (en / 2) := by
  have h0 := h.e0
  have h1 := h.e1
  refine ⟨h.o1, h.o2, h.o3, by omega, by omega, by omega, by omega, by omega, ?_⟩
  have := h.inv.zero (by omega)
  rw [Int.toNat_natCast, Int.toNat_natCast, Int.toNat_natCast, show (en / 2).toNat = en.toNat / 2 by omega]
  exact this

set_option maxHeartbeats 2000000 in
theorem eMulK (X Y k : Int) (hX : 0 ≤ X) (hY : 0 ≤ Y) (hk : 0 ≤ k) (hk1 : k ≤ 18446744073709551615) (w : World) :
    Calls Tryd.prog 15 #[edV X Y, .int .u64 k] w fun e w' =>
      e = .returned (edV ((Obol.smulN (X.toNat, Y.toNat) k.toNat).1 : Nat) ((Obol.smulN (X.toNat, Y.toNat) k.toNat).2 : Nat)) ∧ Below w.heap.size w w' := by
  go_enter Tryd.func15, Tryd.ntmps15
  go_wp2_with fail
  refine (eSure _ _ (by omega) (by omega) _).mono ?_
  rintro e w1 ⟨rfl, hb⟩
  obtain ⟨hc, hf⟩ := bcell hb; have hz := hb.size; (try simp at hz)
  have R0 : Row w1 w.heap.size #[.int .u64 X, .int .u64 Y] 38 := ((Row.new _ _ _).alloc _).below hb (by simp; omega)
  have R1 : Row w1 (w.heap.size + 1) #[.int .u64 0, .int .u64 0] 38 := by have h := Row.new (w.alloc (.cells #[.int .u64 X, .int .u64 Y] 38)) #[.int .u64 0, .int .u64 0] 38; rw [World.size_alloc] at h; exact h.below hb (by simp)
  have hb1 : Below w.heap.size w w1 := by repeat (first | exact Below.refl _ _ | assumption | apply bDrewN | apply bDrew | apply bAlloc | refine bSet ?_ (by omega) | refine bThen ?_ (by assumption) (by simp <;> omega))
  have g0 := R0.cell 0 rfl
  have g1 := R0.cell 1 rfl
  have f0 := R0.free 0
  have f1 := R0.free 1
  clear hc hf hb
  go_upto_region 2 with (fail)
  obtain ⟨sx, hsx⟩ : ∃ z : Int, z = ((Obol.sureN (X.toNat, Y.toNat)).1 : Nat) := ⟨_, rfl⟩
  obtain ⟨sy, hsy⟩ : ∃ z : Int, z = ((Obol.sureN (X.toNat, Y.toNat)).2 : Nat) := ⟨_, rfl⟩
  rw [← hsx, ← hsy]
  replace hsx := Lib.hid hsx
  replace hsy := Lib.hid hsy
  replace R0 := R0.set2 (v0 := .int .u64 sx) (v1 := .int .u64 sy)
  replace R1 := (R1.other (v := .int .u64 sx) (c := w.heap.size) (o := 0) (by omega)).other (v := .int .u64 sy) (c := w.heap.size) (o := 1) (by omega)
  replace hb1 : Below w.heap.size w ((w1.setCell ⟨w.heap.size, 0, none⟩ (.int .u64 sx)).setCell ⟨w.heap.size, 1, none⟩ (.int .u64 sy)) := bSet (bSet hb1 (by omega)) (by omega)
  clear hz g0 g1 f0 f1
  generalize hw2 : (w1.setCell ⟨w.heap.size, 0, none⟩ (.int .u64 sx)).setCell ⟨w.heap.size, 1, none⟩ (.int .u64 sy) = w2
  rw [hw2] at R0 R1 hb1
  clear hw2
  have g0 := R0.cell 0 rfl
  have g1 := R0.cell 1 rfl
  have hz := R1.lt
  have hz0 := R0.lt
  go_cut [5, 6] (fun v5 v6 wc => ∃ a b : Nat, v5 = .pointer (some ⟨a, 0, none⟩) ∧ v6 = .pointer (some ⟨b, 0, none⟩) ∧ a ≠ b ∧ w.heap.size + 1 < a ∧ w.heap.size + 1 < b ∧ Below w.heap.size w wc ∧
    Row wc a #[.int .u64 0, .int .u64 1, .int .u64 1] 60 ∧ Row wc b #[.int .u64 sx, .int .u64 sy, .int .u64 1] 60 ∧ Row wc (w.heap.size + 1) #[.int .u64 0, .int .u64 0] 38)
  case first =>
    go_region
    all_goals (go_wp2_with fail; go_meet)
    · exact ⟨_, _, rfl, rfl, by omega, by omega, by omega, bDrew (bAlloc (bAlloc hb1 _) _), ((Row.new _ _ _).alloc _).drew, (Row.new1 _ _ _ _).drew, ((R1.alloc _).alloc _).drew⟩
    · exact ⟨_, _, rfl, rfl, by omega, by omega, by omega, bDrew (bAlloc (bAlloc hb1 _) _), (Row.new1 _ _ _ _).drew, ((Row.new _ _ _).alloc _).drew, ((R1.alloc _).alloc _).drew⟩
  case rest =>
    obtain ⟨a, b, rfl, rfl, hab, ha, hbb, hbc, Ra, Rb, Rr⟩ := hcut
    have I0 : Hid (MulI (Obol.Pnt.of (X.toNat, Y.toNat)) k.toNat 0 1 1 sx sy 1 k) := by
      have e1 := hsx.out
      have e2 := hsy.out
      have hn := Obol.sure_n (X.toNat, Y.toNat)
      rw [hn] at e1 e2
      refine ⟨by omega, by omega, by omega, by omega, by omega, by omega, hk, hk1, ?_⟩
      rw [e1, e2, Int.toNat_natCast, Int.toNat_natCast]
      exact Obol.MulInv.start _ _
    go_wp2_with fail
    go_loopw [1] (fun e wr => ∃ ox oy oz bx by' bz en : Int, e = .int .u64 en ∧ Row wr a #[.int .u64 ox, .int .u64 oy, .int .u64 oz] 60 ∧ Row wr b #[.int .u64 bx, .int .u64 by', .int .u64 bz] 60 ∧
      Row wr (w.heap.size + 1) #[.int .u64 0, .int .u64 0] 38 ∧ Below w.heap.size w wr ∧ Hid (MulI (Obol.Pnt.of (X.toNat, Y.toNat)) k.toNat ox oy oz bx by' bz en)) (fun e _ => (intOf e).toNat)
    case atStart => exact ⟨0, 1, 1, sx, sy, 1, k, rfl, Ra, Rb, Rr, hbc, I0⟩
    case round =>
      have hba : b ≠ a := fun e => hab e.symm
      have hra : w.heap.size + 1 ≠ a := by omega
      have hrb : w.heap.size + 1 ≠ b := by omega
      clear Ra Rb Rr hbc I0 R0 R1 hb1 g0 g1 hz hz0
      obtain ⟨ox, oy, oz, bx, by', bz, en, rfl, Ra, Rb, Rr, hbc, HI⟩ := hrel
      have i1 := HI.out.o1
      have i2 := HI.out.o2
      have i3 := HI.out.o3
      have i4 := HI.out.b1
      have i5 := HI.out.b2
      have i6 := HI.out.b3
      have j3 := HI.out.e0
      have j4 := HI.out.e1
      have ea := and_one_u64 en j3 j4
      have a0 := Ra.cell 0 rfl
      have a1 := Ra.cell 1 rfl
      have a2 := Ra.cell 2 rfl
      have b0 := Rb.cell 0 rfl
      have b1 := Rb.cell 1 rfl
      have b2 := Rb.cell 2 rfl
      by_cases hp : 0 < en
      · by_cases ho : en % 2 = 1
        · have HN := Lib.hid (HI.out.one ho)
          go_wp2_with fail
          refine (eTogether _ _ _ _ _ _ i1 i2 i3 i4 i5 i6 _).mono ?_
          rintro e w3 ⟨rfl, hb3⟩
          replace hbc := bThen hbc hb3 hbc.size
          replace Rb := Rb.below hb3 Rb.lt
          replace Rr := Rr.below hb3 Rr.lt
          replace Ra := Ra.below hb3 Ra.lt
          clear a0 a1 a2 b0 b1 b2 hb3
          have a0 := Ra.cell 0 rfl
          have a1 := Ra.cell 1 rfl
          have a2 := Ra.cell 2 rfl
          have b0 := Rb.cell 0 rfl
          have b1 := Rb.cell 1 rfl
          have b2 := Rb.cell 2 rfl
          have f0 := Ra.free 0
          have f1 := Ra.free 1
          have f2 := Ra.free 2
          go_wp2_with fail
          refine (eTogether _ _ _ _ _ _ i4 i5 i6 i4 i5 i6 _).mono ?_
          rintro e w4 ⟨rfl, hb4⟩
          replace hbc := bThen (bSet (bSet (bSet hbc (b := a) (by omega)) (b := a) (by omega)) (b := a) (by omega)) hb4 (bSet (bSet (bSet hbc (b := a) (by omega)) (b := a) (by omega)) (b := a) (by omega)).size
          replace Rb := (((Rb.other hba).other hba).other hba).below hb4 (((Rb.other hba).other hba).other hba).lt
          replace Rr := (((Rr.other hra).other hra).other hra).below hb4 (((Rr.other hra).other hra).other hra).lt
          replace Ra := Ra.set3.below hb4 Ra.set3.lt
          clear a0 a1 a2 b0 b1 b2 hb4 f0 f1 f2
          have a0 := Ra.cell 0 rfl
          have a1 := Ra.cell 1 rfl
          have a2 := Ra.cell 2 rfl
          have b0 := Rb.cell 0 rfl
          have b1 := Rb.cell 1 rfl
          have b2 := Rb.cell 2 rfl
          have f0 := Rb.free 0
          have f1 := Rb.free 1
          have f2 := Rb.free 2
          go_wp2_with fail
          go_roundw
          case rel => exact ⟨_, _, _, _, _, _, _, rfl, ((Ra.other hab).other hab).other hab, Rb.set3, ((Rr.other hrb).other hrb).other hrb, bSet (bSet (bSet hbc (by omega)) (by omega)) (by omega), HN⟩
          case measure => simp [intOf]; omega
        · have ho' : en % 2 = 0 := by omega
          have HN := Lib.hid (HI.out.zero ho')
          clear ho
          go_wp2_with fail
          refine (eTogether _ _ _ _ _ _ i4 i5 i6 i4 i5 i6 _).mono ?_
          rintro e w4 ⟨rfl, hb4⟩
          replace hbc := bThen hbc hb4 hbc.size
          replace Rb := Rb.below hb4 Rb.lt
          replace Rr := Rr.below hb4 Rr.lt
          replace Ra := Ra.below hb4 Ra.lt
          clear a0 a1 a2 b0 b1 b2 hb4
          have a0 := Ra.cell 0 rfl
          have a1 := Ra.cell 1 rfl
          have a2 := Ra.cell 2 rfl
          have b0 := Rb.cell 0 rfl
          have b1 := Rb.cell 1 rfl
          have b2 := Rb.cell 2 rfl
          have f0 := Rb.free 0
          have f1 := Rb.free 1
          have f2 := Rb.free 2
          go_wp2_with fail
          go_roundw
          case rel => exact ⟨_, _, _, _, _, _, _, rfl, ((Ra.other hab).other hab).other hab, Rb.set3, ((Rr.other hrb).other hrb).other hrb, bSet (bSet (bSet hbc (by omega)) (by omega)) (by omega), HN⟩
          case measure => simp [intOf]; omega
      · have HD : Hid ((Obol.mulR ox.toNat (Obol.invR oz.toNat), Obol.mulR oy.toNat (Obol.invR oz.toNat)) = Obol.smulN (X.toNat, Y.toNat) k.toNat) := by
          have h := HI.out.inv
          rw [show en.toNat = 0 by omega] at h
          rw [Obol.smulN_eq]
          exact h.done
        have r0 := Rr.cell 0 rfl
        have r1 := Rr.cell 1 rfl
        have fr0 := Rr.free 0
        have fr1 := Rr.free 1
        go_wp2_with (go_at_call 32; refine (RPow2 _ i3 _).mono ?_; rintro e w' ⟨rfl, n, rfl⟩)
        go_region_with (go_at_call 33; refine (eMul _ _ (by omega) (by omega) _).mono ?_; rintro e w' ⟨rfl, n, rfl⟩)
        all_goals go_wp2_with fail
        all_goals
          refine bodyPost_ret (v := edV (Obol.mulR ox.toNat (Obol.invR oz.toNat) : Nat) (Obol.mulR oy.toNat (Obol.invR oz.toNat) : Nat)) (by simp [results, Tryd.results15, go_sem, r0, r1]) rfl ⟨by rw [← HD.out], ?_⟩
          repeat (first | exact Below.refl _ _ | assumption | apply bDrewN | apply bDrew | apply bAlloc | refine bSet ?_ (by omega) | refine bThen ?_ (by assumption) (by simp <;> omega))

end Go.Proofs.YtcdfpceagobicaaDoor
