import Derived.Test.YtkfimfjjmdjbdaaUl
set_option linter.unusedVariables false
set_option linter.unusedSimpArgs false
set_option linter.unusedSectionVars false
/- Walks: package tx: the reader's proof. -/
namespace Obol
def pfK (s : Rs) : Nat := if 0 < s.2.length ∧ s.2.getD 0 0 = 1 then 17 else 1
theorem pfK_or (s : Rs) : pfK s = 1 ∨ pfK s = 17 := by unfold pfK; split <;> simp
noncomputable def pfP (s : Rs) : Bool × Nat × Nat := match crd (tkM (pfK s) s) with | .some p => p | .none => (false, 0, 0)
noncomputable def pfS (s : Rs) : Rs := match crd (tkM (pfK s) s) with | .some _ => tkS (pfK s) s | .none => (true, (tkS (pfK s) s).2)
noncomputable def pfN (s : Rs) : Nat → Rs
  | 0 => s
  | j + 1 => pfS (pfN s j)
theorem pfS_lt {s : Rs} (h : ∀ i, s.2.getD i 0 < 256) (i : Nat) : (pfS s).2.getD i 0 < 256 := by
  unfold pfS
  split
  · exact tkS_lt _ h i
  · exact tkS_lt _ h i
theorem pfN_lt {s : Rs} (h : ∀ i, s.2.getD i 0 < 256) : ∀ j i, (pfN s j).2.getD i 0 < 256
  | 0, i => h i
  | j + 1, i => pfS_lt (pfN_lt h j) i
/-- The k-th point, where j of them were read. -/
noncomputable def pfV (s : Rs) (j k : Nat) : Bool × Nat × Nat := if k < j then pfP (pfN s k) else (false, 0, 0)
end Obol
namespace Go.Proofs.Ytkfimfjjmdjbdaa
open Go.RowKit
set_option linter.unusedVariables false

noncomputable abbrev pfA (s : Obol.Rs) (j : Nat) : Array Value := #[.bool (Obol.pfV s j 0).1, .int .u64 (((Obol.pfV s j 0).2.1 : Nat) : Int), .int .u64 (((Obol.pfV s j 0).2.2 : Nat) : Int), .bool (Obol.pfV s j 1).1, .int .u64 (((Obol.pfV s j 1).2.1 : Nat) : Int), .int .u64 (((Obol.pfV s j 1).2.2 : Nat) : Int), .bool (Obol.pfV s j 2).1, .int .u64 (((Obol.pfV s j 2).2.1 : Nat) : Int), .int .u64 (((Obol.pfV s j 2).2.2 : Nat) : Int)]
def PfI (base br : Nat) (s : Obol.Rs) (w : World) (e : Ending) (w' : World) : Prop := e = .returned (.agg (pfA s 3)) ∧ RdAt base br (Obol.pfN s 3) w' ∧ Tch br w w'
abbrev z9 : Array Value := #[.bool false, .int .u64 0, .int .u64 0, .bool false, .int .u64 0, .int .u64 0, .bool false, .int .u64 0, .int .u64 0]
structure PfW (base br b2 b3 : Nat) (s : Obol.Rs) (w : World) (j : Nat) (wr : World) : Prop where
  rd : RdAt base br (Obol.pfN s j) wr
  tc : Tch br w wr
  r2 : Row wr b2 z9 33
  r3 : Row wr b3 (pfA s j) 98
  n2 : b2 ≠ br
  n3 : b3 ≠ br
  n23 : b2 < b3
  lo : w.heap.size ≤ b2
set_option maxRecDepth 100000 in
set_option maxHeartbeats 100000000 in
theorem rProof (base br : Nat) (s : Obol.Rs) (hb0 : ∀ i, s.2.getD i 0 < 256) (w : World) (hR : RdAt base br s w) (hbase0 : base ≤ w.heap.size) :
    Calls Try.prog 42 #[.pointer (some ⟨br, 0, none⟩)] w (PfI base br s w) := by
  have hb := Lib.hid hb0
  have hbase := Lib.hid hbase0
  have hlt : br < w.heap.size := by obtain ⟨a, c, h1, h2, h3⟩ := hR; exact h1.lt
  have PW : Hid (PfW base br w.heap.size (w.heap.size + 1) s w 0 ((w.alloc (.cells z9 33)).alloc (.cells z9 98))) := Lib.hid (by
    have B1 := bAlloc (Below.refl _ w) (.cells z9 33)
    have B2 := bAlloc (Below.refl _ (w.alloc (.cells z9 33))) (.cells z9 98)
    have hr3 := Row.new (w.alloc (.cells z9 33)) z9 98
    rw [World.size_alloc] at hr3
    exact ⟨(hR.next B1).next B2, (Tch.below B1).trans (Tch.below B2), (Row.new _ _ _).alloc _, hr3, by omega, by omega, by omega, Nat.le_refl _⟩)
  clear hR hb0 hbase0
  go_enter Try.func42, Try.ntmps42
  go_upto_region 3 with fail
  generalize (w.alloc (.cells z9 33)).alloc (.cells z9 98) = w3 at PW ⊢
  obtain ⟨b3, hb3⟩ : ∃ z, w.heap.size + 1 = z := ⟨_, rfl⟩
  obtain ⟨b2, hb2⟩ : ∃ z, w.heap.size = z := ⟨_, rfl⟩
  rw [hb3] at PW ⊢
  have PW2 : Hid (PfW base br b2 b3 s w 0 w3) := Lib.hid (by rw [← hb2]; exact PW.out)
  rw [hb2]
  replace hb3 := Lib.hid hb3
  replace hb2 := Lib.hid hb2
  clear PW
  go_loopw [8] (fun q wr => ∃ j : Nat, j ≤ 3 ∧ q = .int .i64 (j : Int) ∧ Hid (PfW base br b2 b3 s w j wr)) (fun q _ => (3 - intOf q).toNat)
  case atStart => exact ⟨0, by omega, rfl, PW2⟩
  case round =>
    clear PW2
    obtain ⟨j, hj, rfl, PW⟩ := hrel
    rcases (by omega : j = 0 ∨ j = 1 ∨ j = 2 ∨ j = 3) with rfl | rfl | rfl | rfl
    · have hRd0 := Lib.hid PW.out.rd
      obtain ⟨ra, rc, g1, g2, g3⟩ := PW.out.rd
      have c0 := g1.cell 0 rfl
      have hlen : ((Obol.pfN s 0).2.length : Int) ≤ 9223372036854775807 := by have := g2.le; have := g2.cap; omega
      by_cases h0 : 0 < (Obol.pfN s 0).2.length
      · obtain ⟨b, o, rfl, hlb, hBL⟩ := g2.bl h0
        have hcb := hBL 0 h0
        rw [Nat.add_zero] at hcb
        obtain ⟨v, hv⟩ : ∃ v : Int, (((Obol.pfN s 0).2.getD 0 0 : Nat) : Int) = v := ⟨_, rfl⟩
        rw [hv] at hcb
        have hd : decide (0 < (Obol.pfN s 0).2.length) = true := decide_eq_true h0
        by_cases h1 : (Obol.pfN s 0).2.getD 0 0 = 1
        · have hK : Hid (Obol.pfK (Obol.pfN s 0) = 17) := Lib.hid (by unfold Obol.pfK; rw [if_pos ⟨h0, h1⟩])
          have cT := Lib.hid (fun W h => rTake base br 17 (Obol.pfN s 0) (by decide) (by decide) W h)
          obtain rfl : v = 1 := by omega
          replace h1 := Lib.hid h1
          replace hv := Lib.hid hv
          clear g1 g2 hBL
          go_wp2_with fail
          refine (cT.out _ hRd0.out).mono ?_
          rintro e wA ⟨⟨v, rfl, qb, qo, qc, rfl, hBL, hbl, hkc, hcm, hne⟩, hRd, hTc⟩
          have cR := Lib.hid (cRead qb qo qc _ wA (by rw [Obol.tkM_len]; exact hkc) hcm hBL (Obol.tkM_lt 17 (Obol.pfN_lt hb.out 0)) 17 (Obol.tkM_len _ _) (by decide))
          have RA2 := hTc.row PW.out.r2 PW.out.n2
          have RA3 := hTc.row PW.out.r3 PW.out.n3
          have TA := PW.out.tc.trans hTc
          clear hBL
          cases hcr : Obol.crd (Obol.tkM 17 (Obol.pfN s 0)) with
          | some p =>
            have hP : Hid (Obol.pfP (Obol.pfN s 0) = p) := Lib.hid (by unfold Obol.pfP; rw [hK.out, hcr])
            have hS : Hid (Obol.pfN s (0 + 1) = Obol.tkS 17 (Obol.pfN s 0)) := Lib.hid (by show Obol.pfS _ = _; unfold Obol.pfS; rw [hK.out, hcr])
            have hV : crdV (Obol.tkM 17 (Obol.pfN s 0)) = .tuple #[ptV p.1 (p.2.1 : Nat) (p.2.2 : Nat), .nilIface] := by unfold crdV; rw [hcr]
            rw [hV] at cR
            obtain ⟨pi, hpi⟩ : ∃ q : Bool, p.1 = q := ⟨_, rfl⟩
            obtain ⟨px, hpx⟩ : ∃ q : Int, ((p.2.1 : Nat) : Int) = q := ⟨_, rfl⟩
            obtain ⟨py, hpy⟩ : ∃ q : Int, ((p.2.2 : Nat) : Int) = q := ⟨_, rfl⟩
            rw [hpi, hpx, hpy] at cR
            have hA : Hid ((pfA s (0 + 1)) = (#[.bool pi, .int .u64 px, .int .u64 py, .bool (Obol.pfV s 0 1).1, .int .u64 (((Obol.pfV s 0 1).2.1 : Nat) : Int), .int .u64 (((Obol.pfV s 0 1).2.2 : Nat) : Int), .bool (Obol.pfV s 0 2).1, .int .u64 (((Obol.pfV s 0 2).2.1 : Nat) : Int), .int .u64 (((Obol.pfV s 0 2).2.2 : Nat) : Int)] : Array Value)) := Lib.hid (by rw [← hpi, ← hpx, ← hpy, ← hP.out]; rfl)
            replace hpi := Lib.hid hpi
            replace hpx := Lib.hid hpx
            replace hpy := Lib.hid hpy
            clear hcr hV
            go_wp2_with fail
            refine cR.out.mono ?_
            rintro e wB ⟨rfl, hbB⟩
            go_upto_region 9 with fail
            have RB2 := (RA2.below hbB RA2.lt).alloc (.cells #[.bool pi, .int .u64 px, .int .u64 py] 31)
            have RB3 := (RA3.below hbB RA3.lt).alloc (.cells #[.bool pi, .int .u64 px, .int .u64 py] 31)
            have RB6 := Row.new wB #[.bool pi, .int .u64 px, .int .u64 py] 31
            have RdB := (hRd.next hbB).next (bAlloc (Below.refl _ wB) (.cells #[.bool pi, .int .u64 px, .int .u64 py] 31))
            have TB := (TA.trans (Tch.below hbB)).trans (Tch.below (bAlloc (Below.refl _ wB) (.cells #[.bool pi, .int .u64 px, .int .u64 py] 31)))
            have hn6 : wB.heap.size ≠ br := by
              obtain ⟨ra, rc, g1, -, -⟩ := hRd
              have := (g1.below hbB g1.lt).lt
              omega
            have hn63 : b3 < wB.heap.size := (RA3.below hbB RA3.lt).lt
            clear hbB RA2 RA3 TA hRd hTc
            generalize wB.alloc (.cells #[.bool pi, .int .u64 px, .int .u64 py] 31) = wC at RB2 RB3 RB6 RdB TB ⊢
            generalize wB.heap.size = b6 at RB6 hn6 hn63 ⊢
            go_upto_region 11 with fail
            have RdD : RdAt base br (Obol.pfN s (0 + 1)) wC := by rw [hS.out]; exact RdB
            have RD2 := RB2
            have RD3 := RB3
            have RD6 := RB6
            have TD := TB
            clear RB2 RB3 RB6 TB RdB
            generalize wC = wD at RdD RD2 RD3 RD6 TD ⊢
            have k0 := RD6.cell 0 rfl
            have k1 := RD6.cell 1 rfl
            have k2 := RD6.cell 2 rfl
            have e0 := RD3.cell 0 rfl
            have e1 := RD3.cell 1 rfl
            have e2 := RD3.cell 2 rfl
            have f0 := RD3.free 0
            have f1 := RD3.free 1
            have f2 := RD3.free 2
            have HN : Hid (PfW base br b2 b3 s w (0 + 1) (((wD.setCell ⟨b3, 0, none⟩ (.bool pi)).setCell ⟨b3, 1, none⟩ (.int .u64 px)).setCell ⟨b3, 2, none⟩ (.int .u64 py))) := Lib.hid (by
              have hlo := PW.out.lo
              have h23 := PW.out.n23
              obtain ⟨ra, rc, g1, g2, g3⟩ := RdD
              have hbw : base ≤ w.heap.size := hbase.out
              have hB : Below w.heap.size wD (((wD.setCell ⟨b3, 0, none⟩ (.bool pi)).setCell ⟨b3, 1, none⟩ (.int .u64 px)).setCell ⟨b3, 2, none⟩ (.int .u64 py)) := bSet (bSet (bSet (Below.refl _ _) (by omega)) (by omega)) (by omega)
              refine ⟨⟨ra, rc, ((g1.other PW.out.n3.symm).other PW.out.n3.symm).other PW.out.n3.symm, g2.below (hB.mono hbw), g3⟩, ?_, ((RD2.other (by omega)).other (by omega)).other (by omega), ?_, PW.out.n2, PW.out.n3, h23, hlo⟩
              · exact ⟨hB.os.trans TD.os, hB.tape.trans TD.tape, hB.output.trans TD.output, Nat.le_trans TD.size hB.size, fun k hk hn => (hB.block k hk).trans (TD.block k hk hn)⟩
              · rw [hA.out]
                exact ((RD3.set 0 _).set 1 _).set 2 _)
            clear RdD RD2 RD3 RD6 TD
            go_wp2_with fail
            go_roundw
            case rel => exact ⟨0 + 1, by omega, by first | rfl | go_num, HN⟩
            case measure => simp [intOf]
          | none =>
            have hP : Hid (Obol.pfP (Obol.pfN s 0) = (false, 0, 0)) := Lib.hid (by unfold Obol.pfP; rw [hK.out, hcr])
            have hS : Hid (Obol.pfN s (0 + 1) = (true, (Obol.tkS 17 (Obol.pfN s 0)).2)) := Lib.hid (by show Obol.pfS _ = _; unfold Obol.pfS; rw [hK.out, hcr])
            have hV : crdV (Obol.tkM 17 (Obol.pfN s 0)) = .tuple #[ptV false 0 0, errV 3] := by unfold crdV; rw [hcr]
            rw [hV] at cR
            have hA : Hid ((pfA s (0 + 1)) = (#[.bool false, .int .u64 0, .int .u64 0, .bool (Obol.pfV s 0 1).1, .int .u64 (((Obol.pfV s 0 1).2.1 : Nat) : Int), .int .u64 (((Obol.pfV s 0 1).2.2 : Nat) : Int), .bool (Obol.pfV s 0 2).1, .int .u64 (((Obol.pfV s 0 2).2.1 : Nat) : Int), .int .u64 (((Obol.pfV s 0 2).2.2 : Nat) : Int)] : Array Value)) := Lib.hid (by
              have h0 : Obol.pfV s (0 + 1) 0 = (false, 0, 0) := hP.out
              have h1 : (Obol.pfV s (0 + 1) 0).1 = false := by rw [h0]
              have h2 : (((Obol.pfV s (0 + 1) 0).2.1 : Nat) : Int) = 0 := by rw [h0]; rfl
              have h3 : (((Obol.pfV s (0 + 1) 0).2.2 : Nat) : Int) = 0 := by rw [h0]; rfl
              unfold pfA
              rw [h1, h2, h3]
              rfl)
            clear hcr hV
            go_wp2_with fail
            refine cR.out.mono ?_
            rintro e wB ⟨rfl, hbB⟩
            go_upto_region 9 with fail
            have RB2 := (RA2.below hbB RA2.lt).alloc (.cells #[.bool false, .int .u64 0, .int .u64 0] 31)
            have RB3 := (RA3.below hbB RA3.lt).alloc (.cells #[.bool false, .int .u64 0, .int .u64 0] 31)
            have RB6 := Row.new wB #[.bool false, .int .u64 0, .int .u64 0] 31
            have RdB := (hRd.next hbB).next (bAlloc (Below.refl _ wB) (.cells #[.bool false, .int .u64 0, .int .u64 0] 31))
            have TB := (TA.trans (Tch.below hbB)).trans (Tch.below (bAlloc (Below.refl _ wB) (.cells #[.bool false, .int .u64 0, .int .u64 0] 31)))
            have hn6 : wB.heap.size ≠ br := by
              obtain ⟨ra, rc, g1, -, -⟩ := hRd
              have := (g1.below hbB g1.lt).lt
              omega
            have hn63 : b3 < wB.heap.size := (RA3.below hbB RA3.lt).lt
            clear hbB RA2 RA3 TA hRd hTc
            generalize wB.alloc (.cells #[.bool false, .int .u64 0, .int .u64 0] 31) = wC at RB2 RB3 RB6 RdB TB ⊢
            generalize wB.heap.size = b6 at RB6 hn6 hn63 ⊢
            obtain ⟨ra, rc, g1, g2, g3⟩ := RdB
            have q1 := g1.cell 1 rfl
            have qf := g1.free 1
            go_upto_region 11 with fail
            have RdD : RdAt base br (Obol.pfN s (0 + 1)) (wC.setCell ⟨br, 1, none⟩ (.bool true)) := by
              rw [hS.out]
              exact ⟨ra, rc, g1.set 1 _, g2.below (bSet (Below.refl base wC) g3), g3⟩
            have RD2 := RB2.other (v := .bool true) (c := br) (o := 1) PW.out.n2
            have RD3 := RB3.other (v := .bool true) (c := br) (o := 1) PW.out.n3
            have RD6 := RB6.other (v := .bool true) (c := br) (o := 1) hn6
            have TD := TB.trans (Tch.set 1 (.bool true))
            clear g1 g2 q1 qf RB2 RB3 RB6 TB
            generalize wC.setCell ⟨br, 1, none⟩ (.bool true) = wD at RdD RD2 RD3 RD6 TD ⊢
            have k0 := RD6.cell 0 rfl
            have k1 := RD6.cell 1 rfl
            have k2 := RD6.cell 2 rfl
            have e0 := RD3.cell 0 rfl
            have e1 := RD3.cell 1 rfl
            have e2 := RD3.cell 2 rfl
            have f0 := RD3.free 0
            have f1 := RD3.free 1
            have f2 := RD3.free 2
            have HN : Hid (PfW base br b2 b3 s w (0 + 1) (((wD.setCell ⟨b3, 0, none⟩ (.bool false)).setCell ⟨b3, 1, none⟩ (.int .u64 0)).setCell ⟨b3, 2, none⟩ (.int .u64 0))) := Lib.hid (by
              have hlo := PW.out.lo
              have h23 := PW.out.n23
              obtain ⟨ra, rc, g1, g2, g3⟩ := RdD
              have hbw : base ≤ w.heap.size := hbase.out
              have hB : Below w.heap.size wD (((wD.setCell ⟨b3, 0, none⟩ (.bool false)).setCell ⟨b3, 1, none⟩ (.int .u64 0)).setCell ⟨b3, 2, none⟩ (.int .u64 0)) := bSet (bSet (bSet (Below.refl _ _) (by omega)) (by omega)) (by omega)
              refine ⟨⟨ra, rc, ((g1.other PW.out.n3.symm).other PW.out.n3.symm).other PW.out.n3.symm, g2.below (hB.mono hbw), g3⟩, ?_, ((RD2.other (by omega)).other (by omega)).other (by omega), ?_, PW.out.n2, PW.out.n3, h23, hlo⟩
              · exact ⟨hB.os.trans TD.os, hB.tape.trans TD.tape, hB.output.trans TD.output, Nat.le_trans TD.size hB.size, fun k hk hn => (hB.block k hk).trans (TD.block k hk hn)⟩
              · rw [hA.out]
                exact ((RD3.set 0 _).set 1 _).set 2 _)
            clear RdD RD2 RD3 RD6 TD
            go_wp2_with fail
            go_roundw
            case rel => exact ⟨0 + 1, by omega, by first | rfl | go_num, HN⟩
            case measure => simp [intOf]
        · have hK : Hid (Obol.pfK (Obol.pfN s 0) = 1) := Lib.hid (by unfold Obol.pfK; rw [if_neg (fun h => h1 h.2)])
          have cT := Lib.hid (fun W h => rTake base br 1 (Obol.pfN s 0) (by decide) (by decide) W h)
          have hv1 : (v == 1) = false := beq_eq_false_iff_ne.2 (by omega)
          replace h1 := Lib.hid h1
          replace hv := Lib.hid hv
          clear g1 g2 hBL
          go_wp2_with fail
          refine (cT.out _ hRd0.out).mono ?_
          rintro e wA ⟨⟨v, rfl, qb, qo, qc, rfl, hBL, hbl, hkc, hcm, hne⟩, hRd, hTc⟩
          have cR := Lib.hid (cRead qb qo qc _ wA (by rw [Obol.tkM_len]; exact hkc) hcm hBL (Obol.tkM_lt 1 (Obol.pfN_lt hb.out 0)) 1 (Obol.tkM_len _ _) (by decide))
          have RA2 := hTc.row PW.out.r2 PW.out.n2
          have RA3 := hTc.row PW.out.r3 PW.out.n3
          have TA := PW.out.tc.trans hTc
          clear hBL
          cases hcr : Obol.crd (Obol.tkM 1 (Obol.pfN s 0)) with
          | some p =>
            have hP : Hid (Obol.pfP (Obol.pfN s 0) = p) := Lib.hid (by unfold Obol.pfP; rw [hK.out, hcr])
            have hS : Hid (Obol.pfN s (0 + 1) = Obol.tkS 1 (Obol.pfN s 0)) := Lib.hid (by show Obol.pfS _ = _; unfold Obol.pfS; rw [hK.out, hcr])
            have hV : crdV (Obol.tkM 1 (Obol.pfN s 0)) = .tuple #[ptV p.1 (p.2.1 : Nat) (p.2.2 : Nat), .nilIface] := by unfold crdV; rw [hcr]
            rw [hV] at cR
            obtain ⟨pi, hpi⟩ : ∃ q : Bool, p.1 = q := ⟨_, rfl⟩
            obtain ⟨px, hpx⟩ : ∃ q : Int, ((p.2.1 : Nat) : Int) = q := ⟨_, rfl⟩
            obtain ⟨py, hpy⟩ : ∃ q : Int, ((p.2.2 : Nat) : Int) = q := ⟨_, rfl⟩
            rw [hpi, hpx, hpy] at cR
            have hA : Hid ((pfA s (0 + 1)) = (#[.bool pi, .int .u64 px, .int .u64 py, .bool (Obol.pfV s 0 1).1, .int .u64 (((Obol.pfV s 0 1).2.1 : Nat) : Int), .int .u64 (((Obol.pfV s 0 1).2.2 : Nat) : Int), .bool (Obol.pfV s 0 2).1, .int .u64 (((Obol.pfV s 0 2).2.1 : Nat) : Int), .int .u64 (((Obol.pfV s 0 2).2.2 : Nat) : Int)] : Array Value)) := Lib.hid (by rw [← hpi, ← hpx, ← hpy, ← hP.out]; rfl)
            replace hpi := Lib.hid hpi
            replace hpx := Lib.hid hpx
            replace hpy := Lib.hid hpy
            clear hcr hV
            go_wp2_with fail
            refine cR.out.mono ?_
            rintro e wB ⟨rfl, hbB⟩
            go_upto_region 9 with fail
            have RB2 := (RA2.below hbB RA2.lt).alloc (.cells #[.bool pi, .int .u64 px, .int .u64 py] 31)
            have RB3 := (RA3.below hbB RA3.lt).alloc (.cells #[.bool pi, .int .u64 px, .int .u64 py] 31)
            have RB6 := Row.new wB #[.bool pi, .int .u64 px, .int .u64 py] 31
            have RdB := (hRd.next hbB).next (bAlloc (Below.refl _ wB) (.cells #[.bool pi, .int .u64 px, .int .u64 py] 31))
            have TB := (TA.trans (Tch.below hbB)).trans (Tch.below (bAlloc (Below.refl _ wB) (.cells #[.bool pi, .int .u64 px, .int .u64 py] 31)))
            have hn6 : wB.heap.size ≠ br := by
              obtain ⟨ra, rc, g1, -, -⟩ := hRd
              have := (g1.below hbB g1.lt).lt
              omega
            have hn63 : b3 < wB.heap.size := (RA3.below hbB RA3.lt).lt
            clear hbB RA2 RA3 TA hRd hTc
            generalize wB.alloc (.cells #[.bool pi, .int .u64 px, .int .u64 py] 31) = wC at RB2 RB3 RB6 RdB TB ⊢
            generalize wB.heap.size = b6 at RB6 hn6 hn63 ⊢
            go_upto_region 11 with fail
            have RdD : RdAt base br (Obol.pfN s (0 + 1)) wC := by rw [hS.out]; exact RdB
            have RD2 := RB2
            have RD3 := RB3
            have RD6 := RB6
            have TD := TB
            clear RB2 RB3 RB6 TB RdB
            generalize wC = wD at RdD RD2 RD3 RD6 TD ⊢
            have k0 := RD6.cell 0 rfl
            have k1 := RD6.cell 1 rfl
            have k2 := RD6.cell 2 rfl
            have e0 := RD3.cell 0 rfl
            have e1 := RD3.cell 1 rfl
            have e2 := RD3.cell 2 rfl
            have f0 := RD3.free 0
            have f1 := RD3.free 1
            have f2 := RD3.free 2
            have HN : Hid (PfW base br b2 b3 s w (0 + 1) (((wD.setCell ⟨b3, 0, none⟩ (.bool pi)).setCell ⟨b3, 1, none⟩ (.int .u64 px)).setCell ⟨b3, 2, none⟩ (.int .u64 py))) := Lib.hid (by
              have hlo := PW.out.lo
              have h23 := PW.out.n23
              obtain ⟨ra, rc, g1, g2, g3⟩ := RdD
              have hbw : base ≤ w.heap.size := hbase.out
              have hB : Below w.heap.size wD (((wD.setCell ⟨b3, 0, none⟩ (.bool pi)).setCell ⟨b3, 1, none⟩ (.int .u64 px)).setCell ⟨b3, 2, none⟩ (.int .u64 py)) := bSet (bSet (bSet (Below.refl _ _) (by omega)) (by omega)) (by omega)
              refine ⟨⟨ra, rc, ((g1.other PW.out.n3.symm).other PW.out.n3.symm).other PW.out.n3.symm, g2.below (hB.mono hbw), g3⟩, ?_, ((RD2.other (by omega)).other (by omega)).other (by omega), ?_, PW.out.n2, PW.out.n3, h23, hlo⟩
              · exact ⟨hB.os.trans TD.os, hB.tape.trans TD.tape, hB.output.trans TD.output, Nat.le_trans TD.size hB.size, fun k hk hn => (hB.block k hk).trans (TD.block k hk hn)⟩
              · rw [hA.out]
                exact ((RD3.set 0 _).set 1 _).set 2 _)
            clear RdD RD2 RD3 RD6 TD
            go_wp2_with fail
            go_roundw
            case rel => exact ⟨0 + 1, by omega, by first | rfl | go_num, HN⟩
            case measure => simp [intOf]
          | none =>
            have hP : Hid (Obol.pfP (Obol.pfN s 0) = (false, 0, 0)) := Lib.hid (by unfold Obol.pfP; rw [hK.out, hcr])
            have hS : Hid (Obol.pfN s (0 + 1) = (true, (Obol.tkS 1 (Obol.pfN s 0)).2)) := Lib.hid (by show Obol.pfS _ = _; unfold Obol.pfS; rw [hK.out, hcr])
            have hV : crdV (Obol.tkM 1 (Obol.pfN s 0)) = .tuple #[ptV false 0 0, errV 3] := by unfold crdV; rw [hcr]
            rw [hV] at cR
            have hA : Hid ((pfA s (0 + 1)) = (#[.bool false, .int .u64 0, .int .u64 0, .bool (Obol.pfV s 0 1).1, .int .u64 (((Obol.pfV s 0 1).2.1 : Nat) : Int), .int .u64 (((Obol.pfV s 0 1).2.2 : Nat) : Int), .bool (Obol.pfV s 0 2).1, .int .u64 (((Obol.pfV s 0 2).2.1 : Nat) : Int), .int .u64 (((Obol.pfV s 0 2).2.2 : Nat) : Int)] : Array Value)) := Lib.hid (by
              have h0 : Obol.pfV s (0 + 1) 0 = (false, 0, 0) := hP.out
              have h1 : (Obol.pfV s (0 + 1) 0).1 = false := by rw [h0]
              have h2 : (((Obol.pfV s (0 + 1) 0).2.1 : Nat) : Int) = 0 := by rw [h0]; rfl
              have h3 : (((Obol.pfV s (0 + 1) 0).2.2 : Nat) : Int) = 0 := by rw [h0]; rfl
              unfold pfA
              rw [h1, h2, h3]
              rfl)
            clear hcr hV
            go_wp2_with fail
            refine cR.out.mono ?_
            rintro e wB ⟨rfl, hbB⟩
            go_upto_region 9 with fail
            have RB2 := (RA2.below hbB RA2.lt).alloc (.cells #[.bool false, .int .u64 0, .int .u64 0] 31)
            have RB3 := (RA3.below hbB RA3.lt).alloc (.cells #[.bool false, .int .u64 0, .int .u64 0] 31)
            have RB6 := Row.new wB #[.bool false, .int .u64 0, .int .u64 0] 31
            have RdB := (hRd.next hbB).next (bAlloc (Below.refl _ wB) (.cells #[.bool false, .int .u64 0, .int .u64 0] 31))
            have TB := (TA.trans (Tch.below hbB)).trans (Tch.below (bAlloc (Below.refl _ wB) (.cells #[.bool false, .int .u64 0, .int .u64 0] 31)))
            have hn6 : wB.heap.size ≠ br := by
              obtain ⟨ra, rc, g1, -, -⟩ := hRd
              have := (g1.below hbB g1.lt).lt
              omega
            have hn63 : b3 < wB.heap.size := (RA3.below hbB RA3.lt).lt
            clear hbB RA2 RA3 TA hRd hTc
            generalize wB.alloc (.cells #[.bool false, .int .u64 0, .int .u64 0] 31) = wC at RB2 RB3 RB6 RdB TB ⊢
            generalize wB.heap.size = b6 at RB6 hn6 hn63 ⊢
            obtain ⟨ra, rc, g1, g2, g3⟩ := RdB
            have q1 := g1.cell 1 rfl
            have qf := g1.free 1
            go_upto_region 11 with fail
            have RdD : RdAt base br (Obol.pfN s (0 + 1)) (wC.setCell ⟨br, 1, none⟩ (.bool true)) := by
              rw [hS.out]
              exact ⟨ra, rc, g1.set 1 _, g2.below (bSet (Below.refl base wC) g3), g3⟩
            have RD2 := RB2.other (v := .bool true) (c := br) (o := 1) PW.out.n2
            have RD3 := RB3.other (v := .bool true) (c := br) (o := 1) PW.out.n3
            have RD6 := RB6.other (v := .bool true) (c := br) (o := 1) hn6
            have TD := TB.trans (Tch.set 1 (.bool true))
            clear g1 g2 q1 qf RB2 RB3 RB6 TB
            generalize wC.setCell ⟨br, 1, none⟩ (.bool true) = wD at RdD RD2 RD3 RD6 TD ⊢
            have k0 := RD6.cell 0 rfl
            have k1 := RD6.cell 1 rfl
            have k2 := RD6.cell 2 rfl
            have e0 := RD3.cell 0 rfl
            have e1 := RD3.cell 1 rfl
            have e2 := RD3.cell 2 rfl
            have f0 := RD3.free 0
            have f1 := RD3.free 1
            have f2 := RD3.free 2
            have HN : Hid (PfW base br b2 b3 s w (0 + 1) (((wD.setCell ⟨b3, 0, none⟩ (.bool false)).setCell ⟨b3, 1, none⟩ (.int .u64 0)).setCell ⟨b3, 2, none⟩ (.int .u64 0))) := Lib.hid (by
              have hlo := PW.out.lo
              have h23 := PW.out.n23
              obtain ⟨ra, rc, g1, g2, g3⟩ := RdD
              have hbw : base ≤ w.heap.size := hbase.out
              have hB : Below w.heap.size wD (((wD.setCell ⟨b3, 0, none⟩ (.bool false)).setCell ⟨b3, 1, none⟩ (.int .u64 0)).setCell ⟨b3, 2, none⟩ (.int .u64 0)) := bSet (bSet (bSet (Below.refl _ _) (by omega)) (by omega)) (by omega)
              refine ⟨⟨ra, rc, ((g1.other PW.out.n3.symm).other PW.out.n3.symm).other PW.out.n3.symm, g2.below (hB.mono hbw), g3⟩, ?_, ((RD2.other (by omega)).other (by omega)).other (by omega), ?_, PW.out.n2, PW.out.n3, h23, hlo⟩
              · exact ⟨hB.os.trans TD.os, hB.tape.trans TD.tape, hB.output.trans TD.output, Nat.le_trans TD.size hB.size, fun k hk hn => (hB.block k hk).trans (TD.block k hk hn)⟩
              · rw [hA.out]
                exact ((RD3.set 0 _).set 1 _).set 2 _)
            clear RdD RD2 RD3 RD6 TD
            go_wp2_with fail
            go_roundw
            case rel => exact ⟨0 + 1, by omega, by first | rfl | go_num, HN⟩
            case measure => simp [intOf]
      · have hK : Hid (Obol.pfK (Obol.pfN s 0) = 1) := Lib.hid (by unfold Obol.pfK; rw [if_neg (fun h => h0 h.1)])
        have cT := Lib.hid (fun W h => rTake base br 1 (Obol.pfN s 0) (by decide) (by decide) W h)
        have hd : decide (0 < (Obol.pfN s 0).2.length) = false := decide_eq_false h0
        clear g1 g2
        go_wp2_with fail
        refine (cT.out _ hRd0.out).mono ?_
        rintro e wA ⟨⟨v, rfl, qb, qo, qc, rfl, hBL, hbl, hkc, hcm, hne⟩, hRd, hTc⟩
        have cR := Lib.hid (cRead qb qo qc _ wA (by rw [Obol.tkM_len]; exact hkc) hcm hBL (Obol.tkM_lt 1 (Obol.pfN_lt hb.out 0)) 1 (Obol.tkM_len _ _) (by decide))
        have RA2 := hTc.row PW.out.r2 PW.out.n2
        have RA3 := hTc.row PW.out.r3 PW.out.n3
        have TA := PW.out.tc.trans hTc
        clear hBL
        cases hcr : Obol.crd (Obol.tkM 1 (Obol.pfN s 0)) with
        | some p =>
          have hP : Hid (Obol.pfP (Obol.pfN s 0) = p) := Lib.hid (by unfold Obol.pfP; rw [hK.out, hcr])
          have hS : Hid (Obol.pfN s (0 + 1) = Obol.tkS 1 (Obol.pfN s 0)) := Lib.hid (by show Obol.pfS _ = _; unfold Obol.pfS; rw [hK.out, hcr])
          have hV : crdV (Obol.tkM 1 (Obol.pfN s 0)) = .tuple #[ptV p.1 (p.2.1 : Nat) (p.2.2 : Nat), .nilIface] := by unfold crdV; rw [hcr]
          rw [hV] at cR
          obtain ⟨pi, hpi⟩ : ∃ q : Bool, p.1 = q := ⟨_, rfl⟩
          obtain ⟨px, hpx⟩ : ∃ q : Int, ((p.2.1 : Nat) : Int) = q := ⟨_, rfl⟩
          obtain ⟨py, hpy⟩ : ∃ q : Int, ((p.2.2 : Nat) : Int) = q := ⟨_, rfl⟩
          rw [hpi, hpx, hpy] at cR
          have hA : Hid ((pfA s (0 + 1)) = (#[.bool pi, .int .u64 px, .int .u64 py, .bool (Obol.pfV s 0 1).1, .int .u64 (((Obol.pfV s 0 1).2.1 : Nat) : Int), .int .u64 (((Obol.pfV s 0 1).2.2 : Nat) : Int), .bool (Obol.pfV s 0 2).1, .int .u64 (((Obol.pfV s 0 2).2.1 : Nat) : Int), .int .u64 (((Obol.pfV s 0 2).2.2 : Nat) : Int)] : Array Value)) := Lib.hid (by rw [← hpi, ← hpx, ← hpy, ← hP.out]; rfl)
          replace hpi := Lib.hid hpi
          replace hpx := Lib.hid hpx
          replace hpy := Lib.hid hpy
          clear hcr hV
          go_wp2_with fail
          refine cR.out.mono ?_
          rintro e wB ⟨rfl, hbB⟩
          go_upto_region 9 with fail
          have RB2 := (RA2.below hbB RA2.lt).alloc (.cells #[.bool pi, .int .u64 px, .int .u64 py] 31)
          have RB3 := (RA3.below hbB RA3.lt).alloc (.cells #[.bool pi, .int .u64 px, .int .u64 py] 31)
          have RB6 := Row.new wB #[.bool pi, .int .u64 px, .int .u64 py] 31
          have RdB := (hRd.next hbB).next (bAlloc (Below.refl _ wB) (.cells #[.bool pi, .int .u64 px, .int .u64 py] 31))
          have TB := (TA.trans (Tch.below hbB)).trans (Tch.below (bAlloc (Below.refl _ wB) (.cells #[.bool pi, .int .u64 px, .int .u64 py] 31)))
          have hn6 : wB.heap.size ≠ br := by
            obtain ⟨ra, rc, g1, -, -⟩ := hRd
            have := (g1.below hbB g1.lt).lt
            omega
          have hn63 : b3 < wB.heap.size := (RA3.below hbB RA3.lt).lt
          clear hbB RA2 RA3 TA hRd hTc
          generalize wB.alloc (.cells #[.bool pi, .int .u64 px, .int .u64 py] 31) = wC at RB2 RB3 RB6 RdB TB ⊢
          generalize wB.heap.size = b6 at RB6 hn6 hn63 ⊢
          go_upto_region 11 with fail
          have RdD : RdAt base br (Obol.pfN s (0 + 1)) wC := by rw [hS.out]; exact RdB
          have RD2 := RB2
          have RD3 := RB3
          have RD6 := RB6
          have TD := TB
          clear RB2 RB3 RB6 TB RdB
          generalize wC = wD at RdD RD2 RD3 RD6 TD ⊢
          have k0 := RD6.cell 0 rfl
          have k1 := RD6.cell 1 rfl
          have k2 := RD6.cell 2 rfl
          have e0 := RD3.cell 0 rfl
          have e1 := RD3.cell 1 rfl
          have e2 := RD3.cell 2 rfl
          have f0 := RD3.free 0
          have f1 := RD3.free 1
          have f2 := RD3.free 2
          have HN : Hid (PfW base br b2 b3 s w (0 + 1) (((wD.setCell ⟨b3, 0, none⟩ (.bool pi)).setCell ⟨b3, 1, none⟩ (.int .u64 px)).setCell ⟨b3, 2, none⟩ (.int .u64 py))) := Lib.hid (by
            have hlo := PW.out.lo
            have h23 := PW.out.n23
            obtain ⟨ra, rc, g1, g2, g3⟩ := RdD
            have hbw : base ≤ w.heap.size := hbase.out
            have hB : Below w.heap.size wD (((wD.setCell ⟨b3, 0, none⟩ (.bool pi)).setCell ⟨b3, 1, none⟩ (.int .u64 px)).setCell ⟨b3, 2, none⟩ (.int .u64 py)) := bSet (bSet (bSet (Below.refl _ _) (by omega)) (by omega)) (by omega)
            refine ⟨⟨ra, rc, ((g1.other PW.out.n3.symm).other PW.out.n3.symm).other PW.out.n3.symm, g2.below (hB.mono hbw), g3⟩, ?_, ((RD2.other (by omega)).other (by omega)).other (by omega), ?_, PW.out.n2, PW.out.n3, h23, hlo⟩
            · exact ⟨hB.os.trans TD.os, hB.tape.trans TD.tape, hB.output.trans TD.output, Nat.le_trans TD.size hB.size, fun k hk hn => (hB.block k hk).trans (TD.block k hk hn)⟩
            · rw [hA.out]
              exact ((RD3.set 0 _).set 1 _).set 2 _)
          clear RdD RD2 RD3 RD6 TD
          go_wp2_with fail
          go_roundw
          case rel => exact ⟨0 + 1, by omega, by first | rfl | go_num, HN⟩
          case measure => simp [intOf]
        | none =>
          have hP : Hid (Obol.pfP (Obol.pfN s 0) = (false, 0, 0)) := Lib.hid (by unfold Obol.pfP; rw [hK.out, hcr])
          have hS : Hid (Obol.pfN s (0 + 1) = (true, (Obol.tkS 1 (Obol.pfN s 0)).2)) := Lib.hid (by show Obol.pfS _ = _; unfold Obol.pfS; rw [hK.out, hcr])
          have hV : crdV (Obol.tkM 1 (Obol.pfN s 0)) = .tuple #[ptV false 0 0, errV 3] := by unfold crdV; rw [hcr]
          rw [hV] at cR
          have hA : Hid ((pfA s (0 + 1)) = (#[.bool false, .int .u64 0, .int .u64 0, .bool (Obol.pfV s 0 1).1, .int .u64 (((Obol.pfV s 0 1).2.1 : Nat) : Int), .int .u64 (((Obol.pfV s 0 1).2.2 : Nat) : Int), .bool (Obol.pfV s 0 2).1, .int .u64 (((Obol.pfV s 0 2).2.1 : Nat) : Int), .int .u64 (((Obol.pfV s 0 2).2.2 : Nat) : Int)] : Array Value)) := Lib.hid (by
            have h0 : Obol.pfV s (0 + 1) 0 = (false, 0, 0) := hP.out
            have h1 : (Obol.pfV s (0 + 1) 0).1 = false := by rw [h0]
            have h2 : (((Obol.pfV s (0 + 1) 0).2.1 : Nat) : Int) = 0 := by rw [h0]; rfl
            have h3 : (((Obol.pfV s (0 + 1) 0).2.2 : Nat) : Int) = 0 := by rw [h0]; rfl
            unfold pfA
            rw [h1, h2, h3]
            rfl)
          clear hcr hV
          go_wp2_with fail
          refine cR.out.mono ?_
          rintro e wB ⟨rfl, hbB⟩
          go_upto_region 9 with fail
          have RB2 := (RA2.below hbB RA2.lt).alloc (.cells #[.bool false, .int .u64 0, .int .u64 0] 31)
          have RB3 := (RA3.below hbB RA3.lt).alloc (.cells #[.bool false, .int .u64 0, .int .u64 0] 31)
          have RB6 := Row.new wB #[.bool false, .int .u64 0, .int .u64 0] 31
          have RdB := (hRd.next hbB).next (bAlloc (Below.refl _ wB) (.cells #[.bool false, .int .u64 0, .int .u64 0] 31))
          have TB := (TA.trans (Tch.below hbB)).trans (Tch.below (bAlloc (Below.refl _ wB) (.cells #[.bool false, .int .u64 0, .int .u64 0] 31)))
          have hn6 : wB.heap.size ≠ br := by
            obtain ⟨ra, rc, g1, -, -⟩ := hRd
            have := (g1.below hbB g1.lt).lt
            omega
          have hn63 : b3 < wB.heap.size := (RA3.below hbB RA3.lt).lt
          clear hbB RA2 RA3 TA hRd hTc
          generalize wB.alloc (.cells #[.bool false, .int .u64 0, .int .u64 0] 31) = wC at RB2 RB3 RB6 RdB TB ⊢
          generalize wB.heap.size = b6 at RB6 hn6 hn63 ⊢
          obtain ⟨ra, rc, g1, g2, g3⟩ := RdB
          have q1 := g1.cell 1 rfl
          have qf := g1.free 1
          go_upto_region 11 with fail
          have RdD : RdAt base br (Obol.pfN s (0 + 1)) (wC.setCell ⟨br, 1, none⟩ (.bool true)) := by
            rw [hS.out]
            exact ⟨ra, rc, g1.set 1 _, g2.below (bSet (Below.refl base wC) g3), g3⟩
          have RD2 := RB2.other (v := .bool true) (c := br) (o := 1) PW.out.n2
          have RD3 := RB3.other (v := .bool true) (c := br) (o := 1) PW.out.n3
          have RD6 := RB6.other (v := .bool true) (c := br) (o := 1) hn6
          have TD := TB.trans (Tch.set 1 (.bool true))
          clear g1 g2 q1 qf RB2 RB3 RB6 TB
          generalize wC.setCell ⟨br, 1, none⟩ (.bool true) = wD at RdD RD2 RD3 RD6 TD ⊢
          have k0 := RD6.cell 0 rfl
          have k1 := RD6.cell 1 rfl
          have k2 := RD6.cell 2 rfl
          have e0 := RD3.cell 0 rfl
          have e1 := RD3.cell 1 rfl
          have e2 := RD3.cell 2 rfl
          have f0 := RD3.free 0
          have f1 := RD3.free 1
          have f2 := RD3.free 2
          have HN : Hid (PfW base br b2 b3 s w (0 + 1) (((wD.setCell ⟨b3, 0, none⟩ (.bool false)).setCell ⟨b3, 1, none⟩ (.int .u64 0)).setCell ⟨b3, 2, none⟩ (.int .u64 0))) := Lib.hid (by
            have hlo := PW.out.lo
            have h23 := PW.out.n23
            obtain ⟨ra, rc, g1, g2, g3⟩ := RdD
            have hbw : base ≤ w.heap.size := hbase.out
            have hB : Below w.heap.size wD (((wD.setCell ⟨b3, 0, none⟩ (.bool false)).setCell ⟨b3, 1, none⟩ (.int .u64 0)).setCell ⟨b3, 2, none⟩ (.int .u64 0)) := bSet (bSet (bSet (Below.refl _ _) (by omega)) (by omega)) (by omega)
            refine ⟨⟨ra, rc, ((g1.other PW.out.n3.symm).other PW.out.n3.symm).other PW.out.n3.symm, g2.below (hB.mono hbw), g3⟩, ?_, ((RD2.other (by omega)).other (by omega)).other (by omega), ?_, PW.out.n2, PW.out.n3, h23, hlo⟩
            · exact ⟨hB.os.trans TD.os, hB.tape.trans TD.tape, hB.output.trans TD.output, Nat.le_trans TD.size hB.size, fun k hk hn => (hB.block k hk).trans (TD.block k hk hn)⟩
            · rw [hA.out]
              exact ((RD3.set 0 _).set 1 _).set 2 _)
          clear RdD RD2 RD3 RD6 TD
          go_wp2_with fail
          go_roundw
          case rel => exact ⟨0 + 1, by omega, by first | rfl | go_num, HN⟩
          case measure => simp [intOf]
    · have hRd0 := Lib.hid PW.out.rd
      obtain ⟨ra, rc, g1, g2, g3⟩ := PW.out.rd
      have c0 := g1.cell 0 rfl
      have hlen : ((Obol.pfN s 1).2.length : Int) ≤ 9223372036854775807 := by have := g2.le; have := g2.cap; omega
      by_cases h0 : 0 < (Obol.pfN s 1).2.length
      · obtain ⟨b, o, rfl, hlb, hBL⟩ := g2.bl h0
        have hcb := hBL 0 h0
        rw [Nat.add_zero] at hcb
        obtain ⟨v, hv⟩ : ∃ v : Int, (((Obol.pfN s 1).2.getD 0 0 : Nat) : Int) = v := ⟨_, rfl⟩
        rw [hv] at hcb
        have hd : decide (0 < (Obol.pfN s 1).2.length) = true := decide_eq_true h0
        by_cases h1 : (Obol.pfN s 1).2.getD 0 0 = 1
        · have hK : Hid (Obol.pfK (Obol.pfN s 1) = 17) := Lib.hid (by unfold Obol.pfK; rw [if_pos ⟨h0, h1⟩])
          have cT := Lib.hid (fun W h => rTake base br 17 (Obol.pfN s 1) (by decide) (by decide) W h)
          obtain rfl : v = 1 := by omega
          replace h1 := Lib.hid h1
          replace hv := Lib.hid hv
          clear g1 g2 hBL
          go_wp2_with fail
          refine (cT.out _ hRd0.out).mono ?_
          rintro e wA ⟨⟨v, rfl, qb, qo, qc, rfl, hBL, hbl, hkc, hcm, hne⟩, hRd, hTc⟩
          have cR := Lib.hid (cRead qb qo qc _ wA (by rw [Obol.tkM_len]; exact hkc) hcm hBL (Obol.tkM_lt 17 (Obol.pfN_lt hb.out 1)) 17 (Obol.tkM_len _ _) (by decide))
          have RA2 := hTc.row PW.out.r2 PW.out.n2
          have RA3 := hTc.row PW.out.r3 PW.out.n3
          have TA := PW.out.tc.trans hTc
          clear hBL
          cases hcr : Obol.crd (Obol.tkM 17 (Obol.pfN s 1)) with
          | some p =>
            have hP : Hid (Obol.pfP (Obol.pfN s 1) = p) := Lib.hid (by unfold Obol.pfP; rw [hK.out, hcr])
            have hS : Hid (Obol.pfN s (1 + 1) = Obol.tkS 17 (Obol.pfN s 1)) := Lib.hid (by show Obol.pfS _ = _; unfold Obol.pfS; rw [hK.out, hcr])
            have hV : crdV (Obol.tkM 17 (Obol.pfN s 1)) = .tuple #[ptV p.1 (p.2.1 : Nat) (p.2.2 : Nat), .nilIface] := by unfold crdV; rw [hcr]
            rw [hV] at cR
            obtain ⟨pi, hpi⟩ : ∃ q : Bool, p.1 = q := ⟨_, rfl⟩
            obtain ⟨px, hpx⟩ : ∃ q : Int, ((p.2.1 : Nat) : Int) = q := ⟨_, rfl⟩
            obtain ⟨py, hpy⟩ : ∃ q : Int, ((p.2.2 : Nat) : Int) = q := ⟨_, rfl⟩
            rw [hpi, hpx, hpy] at cR
            have hA : Hid ((pfA s (1 + 1)) = (#[.bool (Obol.pfV s 1 0).1, .int .u64 (((Obol.pfV s 1 0).2.1 : Nat) : Int), .int .u64 (((Obol.pfV s 1 0).2.2 : Nat) : Int), .bool pi, .int .u64 px, .int .u64 py, .bool (Obol.pfV s 1 2).1, .int .u64 (((Obol.pfV s 1 2).2.1 : Nat) : Int), .int .u64 (((Obol.pfV s 1 2).2.2 : Nat) : Int)] : Array Value)) := Lib.hid (by rw [← hpi, ← hpx, ← hpy, ← hP.out]; rfl)
            replace hpi := Lib.hid hpi
            replace hpx := Lib.hid hpx
            replace hpy := Lib.hid hpy
            clear hcr hV
            go_wp2_with fail
            refine cR.out.mono ?_
            rintro e wB ⟨rfl, hbB⟩
            go_upto_region 9 with fail
            have RB2 := (RA2.below hbB RA2.lt).alloc (.cells #[.bool pi, .int .u64 px, .int .u64 py] 31)
            have RB3 := (RA3.below hbB RA3.lt).alloc (.cells #[.bool pi, .int .u64 px, .int .u64 py] 31)
            have RB6 := Row.new wB #[.bool pi, .int .u64 px, .int .u64 py] 31
            have RdB := (hRd.next hbB).next (bAlloc (Below.refl _ wB) (.cells #[.bool pi, .int .u64 px, .int .u64 py] 31))
            have TB := (TA.trans (Tch.below hbB)).trans (Tch.below (bAlloc (Below.refl _ wB) (.cells #[.bool pi, .int .u64 px, .int .u64 py] 31)))
            have hn6 : wB.heap.size ≠ br := by
              obtain ⟨ra, rc, g1, -, -⟩ := hRd
              have := (g1.below hbB g1.lt).lt
              omega
            have hn63 : b3 < wB.heap.size := (RA3.below hbB RA3.lt).lt
            clear hbB RA2 RA3 TA hRd hTc
            generalize wB.alloc (.cells #[.bool pi, .int .u64 px, .int .u64 py] 31) = wC at RB2 RB3 RB6 RdB TB ⊢
            generalize wB.heap.size = b6 at RB6 hn6 hn63 ⊢
            go_upto_region 11 with fail
            have RdD : RdAt base br (Obol.pfN s (1 + 1)) wC := by rw [hS.out]; exact RdB
            have RD2 := RB2
            have RD3 := RB3
            have RD6 := RB6
            have TD := TB
            clear RB2 RB3 RB6 TB RdB
            generalize wC = wD at RdD RD2 RD3 RD6 TD ⊢
            have k0 := RD6.cell 0 rfl
            have k1 := RD6.cell 1 rfl
            have k2 := RD6.cell 2 rfl
            have e0 := RD3.cell 3 rfl
            have e1 := RD3.cell 4 rfl
            have e2 := RD3.cell 5 rfl
            have f0 := RD3.free 3
            have f1 := RD3.free 4
            have f2 := RD3.free 5
            have HN : Hid (PfW base br b2 b3 s w (1 + 1) (((wD.setCell ⟨b3, 3, none⟩ (.bool pi)).setCell ⟨b3, 4, none⟩ (.int .u64 px)).setCell ⟨b3, 5, none⟩ (.int .u64 py))) := Lib.hid (by
              have hlo := PW.out.lo
              have h23 := PW.out.n23
              obtain ⟨ra, rc, g1, g2, g3⟩ := RdD
              have hbw : base ≤ w.heap.size := hbase.out
              have hB : Below w.heap.size wD (((wD.setCell ⟨b3, 3, none⟩ (.bool pi)).setCell ⟨b3, 4, none⟩ (.int .u64 px)).setCell ⟨b3, 5, none⟩ (.int .u64 py)) := bSet (bSet (bSet (Below.refl _ _) (by omega)) (by omega)) (by omega)
              refine ⟨⟨ra, rc, ((g1.other PW.out.n3.symm).other PW.out.n3.symm).other PW.out.n3.symm, g2.below (hB.mono hbw), g3⟩, ?_, ((RD2.other (by omega)).other (by omega)).other (by omega), ?_, PW.out.n2, PW.out.n3, h23, hlo⟩
              · exact ⟨hB.os.trans TD.os, hB.tape.trans TD.tape, hB.output.trans TD.output, Nat.le_trans TD.size hB.size, fun k hk hn => (hB.block k hk).trans (TD.block k hk hn)⟩
              · rw [hA.out]
                exact ((RD3.set 3 _).set 4 _).set 5 _)
            clear RdD RD2 RD3 RD6 TD
            go_wp2_with fail
            go_roundw
            case rel => exact ⟨1 + 1, by omega, by first | rfl | go_num, HN⟩
            case measure => simp [intOf]
          | none =>
            have hP : Hid (Obol.pfP (Obol.pfN s 1) = (false, 0, 0)) := Lib.hid (by unfold Obol.pfP; rw [hK.out, hcr])
            have hS : Hid (Obol.pfN s (1 + 1) = (true, (Obol.tkS 17 (Obol.pfN s 1)).2)) := Lib.hid (by show Obol.pfS _ = _; unfold Obol.pfS; rw [hK.out, hcr])
            have hV : crdV (Obol.tkM 17 (Obol.pfN s 1)) = .tuple #[ptV false 0 0, errV 3] := by unfold crdV; rw [hcr]
            rw [hV] at cR
            have hA : Hid ((pfA s (1 + 1)) = (#[.bool (Obol.pfV s 1 0).1, .int .u64 (((Obol.pfV s 1 0).2.1 : Nat) : Int), .int .u64 (((Obol.pfV s 1 0).2.2 : Nat) : Int), .bool false, .int .u64 0, .int .u64 0, .bool (Obol.pfV s 1 2).1, .int .u64 (((Obol.pfV s 1 2).2.1 : Nat) : Int), .int .u64 (((Obol.pfV s 1 2).2.2 : Nat) : Int)] : Array Value)) := Lib.hid (by
              have h0 : Obol.pfV s (1 + 1) 1 = (false, 0, 0) := hP.out
              have h1 : (Obol.pfV s (1 + 1) 1).1 = false := by rw [h0]
              have h2 : (((Obol.pfV s (1 + 1) 1).2.1 : Nat) : Int) = 0 := by rw [h0]; rfl
              have h3 : (((Obol.pfV s (1 + 1) 1).2.2 : Nat) : Int) = 0 := by rw [h0]; rfl
              unfold pfA
              rw [h1, h2, h3]
              rfl)
            clear hcr hV
            go_wp2_with fail
            refine cR.out.mono ?_
            rintro e wB ⟨rfl, hbB⟩
            go_upto_region 9 with fail
            have RB2 := (RA2.below hbB RA2.lt).alloc (.cells #[.bool false, .int .u64 0, .int .u64 0] 31)
            have RB3 := (RA3.below hbB RA3.lt).alloc (.cells #[.bool false, .int .u64 0, .int .u64 0] 31)
            have RB6 := Row.new wB #[.bool false, .int .u64 0, .int .u64 0] 31
            have RdB := (hRd.next hbB).next (bAlloc (Below.refl _ wB) (.cells #[.bool false, .int .u64 0, .int .u64 0] 31))
            have TB := (TA.trans (Tch.below hbB)).trans (Tch.below (bAlloc (Below.refl _ wB) (.cells #[.bool false, .int .u64 0, .int .u64 0] 31)))
            have hn6 : wB.heap.size ≠ br := by
              obtain ⟨ra, rc, g1, -, -⟩ := hRd
              have := (g1.below hbB g1.lt).lt
              omega
            have hn63 : b3 < wB.heap.size := (RA3.below hbB RA3.lt).lt
            clear hbB RA2 RA3 TA hRd hTc
            generalize wB.alloc (.cells #[.bool false, .int .u64 0, .int .u64 0] 31) = wC at RB2 RB3 RB6 RdB TB ⊢
            generalize wB.heap.size = b6 at RB6 hn6 hn63 ⊢
            obtain ⟨ra, rc, g1, g2, g3⟩ := RdB
            have q1 := g1.cell 1 rfl
            have qf := g1.free 1
            go_upto_region 11 with fail
            have RdD : RdAt base br (Obol.pfN s (1 + 1)) (wC.setCell ⟨br, 1, none⟩ (.bool true)) := by
              rw [hS.out]
              exact ⟨ra, rc, g1.set 1 _, g2.below (bSet (Below.refl base wC) g3), g3⟩
            have RD2 := RB2.other (v := .bool true) (c := br) (o := 1) PW.out.n2
            have RD3 := RB3.other (v := .bool true) (c := br) (o := 1) PW.out.n3
            have RD6 := RB6.other (v := .bool true) (c := br) (o := 1) hn6
            have TD := TB.trans (Tch.set 1 (.bool true))
            clear g1 g2 q1 qf RB2 RB3 RB6 TB
            generalize wC.setCell ⟨br, 1, none⟩ (.bool true) = wD at RdD RD2 RD3 RD6 TD ⊢
            have k0 := RD6.cell 0 rfl
            have k1 := RD6.cell 1 rfl
            have k2 := RD6.cell 2 rfl
            have e0 := RD3.cell 3 rfl
            have e1 := RD3.cell 4 rfl
            have e2 := RD3.cell 5 rfl
            have f0 := RD3.free 3
            have f1 := RD3.free 4
            have f2 := RD3.free 5
            have HN : Hid (PfW base br b2 b3 s w (1 + 1) (((wD.setCell ⟨b3, 3, none⟩ (.bool false)).setCell ⟨b3, 4, none⟩ (.int .u64 0)).setCell ⟨b3, 5, none⟩ (.int .u64 0))) := Lib.hid (by
              have hlo := PW.out.lo
              have h23 := PW.out.n23
              obtain ⟨ra, rc, g1, g2, g3⟩ := RdD
              have hbw : base ≤ w.heap.size := hbase.out
              have hB : Below w.heap.size wD (((wD.setCell ⟨b3, 3, none⟩ (.bool false)).setCell ⟨b3, 4, none⟩ (.int .u64 0)).setCell ⟨b3, 5, none⟩ (.int .u64 0)) := bSet (bSet (bSet (Below.refl _ _) (by omega)) (by omega)) (by omega)
              refine ⟨⟨ra, rc, ((g1.other PW.out.n3.symm).other PW.out.n3.symm).other PW.out.n3.symm, g2.below (hB.mono hbw), g3⟩, ?_, ((RD2.other (by omega)).other (by omega)).other (by omega), ?_, PW.out.n2, PW.out.n3, h23, hlo⟩
              · exact ⟨hB.os.trans TD.os, hB.tape.trans TD.tape, hB.output.trans TD.output, Nat.le_trans TD.size hB.size, fun k hk hn => (hB.block k hk).trans (TD.block k hk hn)⟩
              · rw [hA.out]
                exact ((RD3.set 3 _).set 4 _).set 5 _)
            clear RdD RD2 RD3 RD6 TD
            go_wp2_with fail
            go_roundw
            case rel => exact ⟨1 + 1, by omega, by first | rfl | go_num, HN⟩
            case measure => simp [intOf]
        · have hK : Hid (Obol.pfK (Obol.pfN s 1) = 1) := Lib.hid (by unfold Obol.pfK; rw [if_neg (fun h => h1 h.2)])
          have cT := Lib.hid (fun W h => rTake base br 1 (Obol.pfN s 1) (by decide) (by decide) W h)
          have hv1 : (v == 1) = false := beq_eq_false_iff_ne.2 (by omega)
          replace h1 := Lib.hid h1
          replace hv := Lib.hid hv
          clear g1 g2 hBL
          go_wp2_with fail
          refine (cT.out _ hRd0.out).mono ?_
          rintro e wA ⟨⟨v, rfl, qb, qo, qc, rfl, hBL, hbl, hkc, hcm, hne⟩, hRd, hTc⟩
          have cR := Lib.hid (cRead qb qo qc _ wA (by rw [Obol.tkM_len]; exact hkc) hcm hBL (Obol.tkM_lt 1 (Obol.pfN_lt hb.out 1)) 1 (Obol.tkM_len _ _) (by decide))
          have RA2 := hTc.row PW.out.r2 PW.out.n2
          have RA3 := hTc.row PW.out.r3 PW.out.n3
          have TA := PW.out.tc.trans hTc
          clear hBL
          cases hcr : Obol.crd (Obol.tkM 1 (Obol.pfN s 1)) with
          | some p =>
            have hP : Hid (Obol.pfP (Obol.pfN s 1) = p) := Lib.hid (by unfold Obol.pfP; rw [hK.out, hcr])
            have hS : Hid (Obol.pfN s (1 + 1) = Obol.tkS 1 (Obol.pfN s 1)) := Lib.hid (by show Obol.pfS _ = _; unfold Obol.pfS; rw [hK.out, hcr])
            have hV : crdV (Obol.tkM 1 (Obol.pfN s 1)) = .tuple #[ptV p.1 (p.2.1 : Nat) (p.2.2 : Nat), .nilIface] := by unfold crdV; rw [hcr]
            rw [hV] at cR
            obtain ⟨pi, hpi⟩ : ∃ q : Bool, p.1 = q := ⟨_, rfl⟩
            obtain ⟨px, hpx⟩ : ∃ q : Int, ((p.2.1 : Nat) : Int) = q := ⟨_, rfl⟩
            obtain ⟨py, hpy⟩ : ∃ q : Int, ((p.2.2 : Nat) : Int) = q := ⟨_, rfl⟩
            rw [hpi, hpx, hpy] at cR
            have hA : Hid ((pfA s (1 + 1)) = (#[.bool (Obol.pfV s 1 0).1, .int .u64 (((Obol.pfV s 1 0).2.1 : Nat) : Int), .int .u64 (((Obol.pfV s 1 0).2.2 : Nat) : Int), .bool pi, .int .u64 px, .int .u64 py, .bool (Obol.pfV s 1 2).1, .int .u64 (((Obol.pfV s 1 2).2.1 : Nat) : Int), .int .u64 (((Obol.pfV s 1 2).2.2 : Nat) : Int)] : Array Value)) := Lib.hid (by rw [← hpi, ← hpx, ← hpy, ← hP.out]; rfl)
            replace hpi := Lib.hid hpi
            replace hpx := Lib.hid hpx
            replace hpy := Lib.hid hpy
            clear hcr hV
            go_wp2_with fail
            refine cR.out.mono ?_
            rintro e wB ⟨rfl, hbB⟩
            go_upto_region 9 with fail
            have RB2 := (RA2.below hbB RA2.lt).alloc (.cells #[.bool pi, .int .u64 px, .int .u64 py] 31)
            have RB3 := (RA3.below hbB RA3.lt).alloc (.cells #[.bool pi, .int .u64 px, .int .u64 py] 31)
            have RB6 := Row.new wB #[.bool pi, .int .u64 px, .int .u64 py] 31
            have RdB := (hRd.next hbB).next (bAlloc (Below.refl _ wB) (.cells #[.bool pi, .int .u64 px, .int .u64 py] 31))
            have TB := (TA.trans (Tch.below hbB)).trans (Tch.below (bAlloc (Below.refl _ wB) (.cells #[.bool pi, .int .u64 px, .int .u64 py] 31)))
            have hn6 : wB.heap.size ≠ br := by
              obtain ⟨ra, rc, g1, -, -⟩ := hRd
              have := (g1.below hbB g1.lt).lt
              omega
            have hn63 : b3 < wB.heap.size := (RA3.below hbB RA3.lt).lt
            clear hbB RA2 RA3 TA hRd hTc
            generalize wB.alloc (.cells #[.bool pi, .int .u64 px, .int .u64 py] 31) = wC at RB2 RB3 RB6 RdB TB ⊢
            generalize wB.heap.size = b6 at RB6 hn6 hn63 ⊢
            go_upto_region 11 with fail
            have RdD : RdAt base br (Obol.pfN s (1 + 1)) wC := by rw [hS.out]; exact RdB
            have RD2 := RB2
            have RD3 := RB3
            have RD6 := RB6
            have TD := TB
            clear RB2 RB3 RB6 TB RdB
            generalize wC = wD at RdD RD2 RD3 RD6 TD ⊢
            have k0 := RD6.cell 0 rfl
            have k1 := RD6.cell 1 rfl
            have k2 := RD6.cell 2 rfl
            have e0 := RD3.cell 3 rfl
            have e1 := RD3.cell 4 rfl
            have e2 := RD3.cell 5 rfl
            have f0 := RD3.free 3
            have f1 := RD3.free 4
            have f2 := RD3.free 5
            have HN : Hid (PfW base br b2 b3 s w (1 + 1) (((wD.setCell ⟨b3, 3, none⟩ (.bool pi)).setCell ⟨b3, 4, none⟩ (.int .u64 px)).setCell ⟨b3, 5, none⟩ (.int .u64 py))) := Lib.hid (by
              have hlo := PW.out.lo
              have h23 := PW.out.n23
              obtain ⟨ra, rc, g1, g2, g3⟩ := RdD
              have hbw : base ≤ w.heap.size := hbase.out
              have hB : Below w.heap.size wD (((wD.setCell ⟨b3, 3, none⟩ (.bool pi)).setCell ⟨b3, 4, none⟩ (.int .u64 px)).setCell ⟨b3, 5, none⟩ (.int .u64 py)) := bSet (bSet (bSet (Below.refl _ _) (by omega)) (by omega)) (by omega)
              refine ⟨⟨ra, rc, ((g1.other PW.out.n3.symm).other PW.out.n3.symm).other PW.out.n3.symm, g2.below (hB.mono hbw), g3⟩, ?_, ((RD2.other (by omega)).other (by omega)).other (by omega), ?_, PW.out.n2, PW.out.n3, h23, hlo⟩
              · exact ⟨hB.os.trans TD.os, hB.tape.trans TD.tape, hB.output.trans TD.output, Nat.le_trans TD.size hB.size, fun k hk hn => (hB.block k hk).trans (TD.block k hk hn)⟩
              · rw [hA.out]
                exact ((RD3.set 3 _).set 4 _).set 5 _)
            clear RdD RD2 RD3 RD6 TD
            go_wp2_with fail
            go_roundw
            case rel => exact ⟨1 + 1, by omega, by first | rfl | go_num, HN⟩
            case measure => simp [intOf]
          | none =>
            have hP : Hid (Obol.pfP (Obol.pfN s 1) = (false, 0, 0)) := Lib.hid (by unfold Obol.pfP; rw [hK.out, hcr])
            have hS : Hid (Obol.pfN s (1 + 1) = (true, (Obol.tkS 1 (Obol.pfN s 1)).2)) := Lib.hid (by show Obol.pfS _ = _; unfold Obol.pfS; rw [hK.out, hcr])
            have hV : crdV (Obol.tkM 1 (Obol.pfN s 1)) = .tuple #[ptV false 0 0, errV 3] := by unfold crdV; rw [hcr]
            rw [hV] at cR
            have hA : Hid ((pfA s (1 + 1)) = (#[.bool (Obol.pfV s 1 0).1, .int .u64 (((Obol.pfV s 1 0).2.1 : Nat) : Int), .int .u64 (((Obol.pfV s 1 0).2.2 : Nat) : Int), .bool false, .int .u64 0, .int .u64 0, .bool (Obol.pfV s 1 2).1, .int .u64 (((Obol.pfV s 1 2).2.1 : Nat) : Int), .int .u64 (((Obol.pfV s 1 2).2.2 : Nat) : Int)] : Array Value)) := Lib.hid (by
              have h0 : Obol.pfV s (1 + 1) 1 = (false, 0, 0) := hP.out
              have h1 : (Obol.pfV s (1 + 1) 1).1 = false := by rw [h0]
              have h2 : (((Obol.pfV s (1 + 1) 1).2.1 : Nat) : Int) = 0 := by rw [h0]; rfl
              have h3 : (((Obol.pfV s (1 + 1) 1).2.2 : Nat) : Int) = 0 := by rw [h0]; rfl
              unfold pfA
              rw [h1, h2, h3]
              rfl)
            clear hcr hV
            go_wp2_with fail
            refine cR.out.mono ?_
            rintro e wB ⟨rfl, hbB⟩
            go_upto_region 9 with fail
            have RB2 := (RA2.below hbB RA2.lt).alloc (.cells #[.bool false, .int .u64 0, .int .u64 0] 31)
            have RB3 := (RA3.below hbB RA3.lt).alloc (.cells #[.bool false, .int .u64 0, .int .u64 0] 31)
            have RB6 := Row.new wB #[.bool false, .int .u64 0, .int .u64 0] 31
            have RdB := (hRd.next hbB).next (bAlloc (Below.refl _ wB) (.cells #[.bool false, .int .u64 0, .int .u64 0] 31))
            have TB := (TA.trans (Tch.below hbB)).trans (Tch.below (bAlloc (Below.refl _ wB) (.cells #[.bool false, .int .u64 0, .int .u64 0] 31)))
            have hn6 : wB.heap.size ≠ br := by
              obtain ⟨ra, rc, g1, -, -⟩ := hRd
              have := (g1.below hbB g1.lt).lt
              omega
            have hn63 : b3 < wB.heap.size := (RA3.below hbB RA3.lt).lt
            clear hbB RA2 RA3 TA hRd hTc
            generalize wB.alloc (.cells #[.bool false, .int .u64 0, .int .u64 0] 31) = wC at RB2 RB3 RB6 RdB TB ⊢
            generalize wB.heap.size = b6 at RB6 hn6 hn63 ⊢
            obtain ⟨ra, rc, g1, g2, g3⟩ := RdB
            have q1 := g1.cell 1 rfl
            have qf := g1.free 1
            go_upto_region 11 with fail
            have RdD : RdAt base br (Obol.pfN s (1 + 1)) (wC.setCell ⟨br, 1, none⟩ (.bool true)) := by
              rw [hS.out]
              exact ⟨ra, rc, g1.set 1 _, g2.below (bSet (Below.refl base wC) g3), g3⟩
            have RD2 := RB2.other (v := .bool true) (c := br) (o := 1) PW.out.n2
            have RD3 := RB3.other (v := .bool true) (c := br) (o := 1) PW.out.n3
            have RD6 := RB6.other (v := .bool true) (c := br) (o := 1) hn6
            have TD := TB.trans (Tch.set 1 (.bool true))
            clear g1 g2 q1 qf RB2 RB3 RB6 TB
            generalize wC.setCell ⟨br, 1, none⟩ (.bool true) = wD at RdD RD2 RD3 RD6 TD ⊢
            have k0 := RD6.cell 0 rfl
            have k1 := RD6.cell 1 rfl
            have k2 := RD6.cell 2 rfl
            have e0 := RD3.cell 3 rfl
            have e1 := RD3.cell 4 rfl
            have e2 := RD3.cell 5 rfl
            have f0 := RD3.free 3
            have f1 := RD3.free 4
            have f2 := RD3.free 5
            have HN : Hid (PfW base br b2 b3 s w (1 + 1) (((wD.setCell ⟨b3, 3, none⟩ (.bool false)).setCell ⟨b3, 4, none⟩ (.int .u64 0)).setCell ⟨b3, 5, none⟩ (.int .u64 0))) := Lib.hid (by
              have hlo := PW.out.lo
              have h23 := PW.out.n23
              obtain ⟨ra, rc, g1, g2, g3⟩ := RdD
              have hbw : base ≤ w.heap.size := hbase.out
              have hB : Below w.heap.size wD (((wD.setCell ⟨b3, 3, none⟩ (.bool false)).setCell ⟨b3, 4, none⟩ (.int .u64 0)).setCell ⟨b3, 5, none⟩ (.int .u64 0)) := bSet (bSet (bSet (Below.refl _ _) (by omega)) (by omega)) (by omega)
              refine ⟨⟨ra, rc, ((g1.other PW.out.n3.symm).other PW.out.n3.symm).other PW.out.n3.symm, g2.below (hB.mono hbw), g3⟩, ?_, ((RD2.other (by omega)).other (by omega)).other (by omega), ?_, PW.out.n2, PW.out.n3, h23, hlo⟩
              · exact ⟨hB.os.trans TD.os, hB.tape.trans TD.tape, hB.output.trans TD.output, Nat.le_trans TD.size hB.size, fun k hk hn => (hB.block k hk).trans (TD.block k hk hn)⟩
              · rw [hA.out]
                exact ((RD3.set 3 _).set 4 _).set 5 _)
            clear RdD RD2 RD3 RD6 TD
            go_wp2_with fail
            go_roundw
            case rel => exact ⟨1 + 1, by omega, by first | rfl | go_num, HN⟩
            case measure => simp [intOf]
      · have hK : Hid (Obol.pfK (Obol.pfN s 1) = 1) := Lib.hid (by unfold Obol.pfK; rw [if_neg (fun h => h0 h.1)])
        have cT := Lib.hid (fun W h => rTake base br 1 (Obol.pfN s 1) (by decide) (by decide) W h)
        have hd : decide (0 < (Obol.pfN s 1).2.length) = false := decide_eq_false h0
        clear g1 g2
        go_wp2_with fail
        refine (cT.out _ hRd0.out).mono ?_
        rintro e wA ⟨⟨v, rfl, qb, qo, qc, rfl, hBL, hbl, hkc, hcm, hne⟩, hRd, hTc⟩
        have cR := Lib.hid (cRead qb qo qc _ wA (by rw [Obol.tkM_len]; exact hkc) hcm hBL (Obol.tkM_lt 1 (Obol.pfN_lt hb.out 1)) 1 (Obol.tkM_len _ _) (by decide))
        have RA2 := hTc.row PW.out.r2 PW.out.n2
        have RA3 := hTc.row PW.out.r3 PW.out.n3
        have TA := PW.out.tc.trans hTc
        clear hBL
        cases hcr : Obol.crd (Obol.tkM 1 (Obol.pfN s 1)) with
        | some p =>
          have hP : Hid (Obol.pfP (Obol.pfN s 1) = p) := Lib.hid (by unfold Obol.pfP; rw [hK.out, hcr])
          have hS : Hid (Obol.pfN s (1 + 1) = Obol.tkS 1 (Obol.pfN s 1)) := Lib.hid (by show Obol.pfS _ = _; unfold Obol.pfS; rw [hK.out, hcr])
          have hV : crdV (Obol.tkM 1 (Obol.pfN s 1)) = .tuple #[ptV p.1 (p.2.1 : Nat) (p.2.2 : Nat), .nilIface] := by unfold crdV; rw [hcr]
          rw [hV] at cR
          obtain ⟨pi, hpi⟩ : ∃ q : Bool, p.1 = q := ⟨_, rfl⟩
          obtain ⟨px, hpx⟩ : ∃ q : Int, ((p.2.1 : Nat) : Int) = q := ⟨_, rfl⟩
          obtain ⟨py, hpy⟩ : ∃ q : Int, ((p.2.2 : Nat) : Int) = q := ⟨_, rfl⟩
          rw [hpi, hpx, hpy] at cR
          have hA : Hid ((pfA s (1 + 1)) = (#[.bool (Obol.pfV s 1 0).1, .int .u64 (((Obol.pfV s 1 0).2.1 : Nat) : Int), .int .u64 (((Obol.pfV s 1 0).2.2 : Nat) : Int), .bool pi, .int .u64 px, .int .u64 py, .bool (Obol.pfV s 1 2).1, .int .u64 (((Obol.pfV s 1 2).2.1 : Nat) : Int), .int .u64 (((Obol.pfV s 1 2).2.2 : Nat) : Int)] : Array Value)) := Lib.hid (by rw [← hpi, ← hpx, ← hpy, ← hP.out]; rfl)
          replace hpi := Lib.hid hpi
          replace hpx := Lib.hid hpx
          replace hpy := Lib.hid hpy
          clear hcr hV
          go_wp2_with fail
          refine cR.out.mono ?_
          rintro e wB ⟨rfl, hbB⟩
          go_upto_region 9 with fail
          have RB2 := (RA2.below hbB RA2.lt).alloc (.cells #[.bool pi, .int .u64 px, .int .u64 py] 31)
          have RB3 := (RA3.below hbB RA3.lt).alloc (.cells #[.bool pi, .int .u64 px, .int .u64 py] 31)
          have RB6 := Row.new wB #[.bool pi, .int .u64 px, .int .u64 py] 31
          have RdB := (hRd.next hbB).next (bAlloc (Below.refl _ wB) (.cells #[.bool pi, .int .u64 px, .int .u64 py] 31))
          have TB := (TA.trans (Tch.below hbB)).trans (Tch.below (bAlloc (Below.refl _ wB) (.cells #[.bool pi, .int .u64 px, .int .u64 py] 31)))
          have hn6 : wB.heap.size ≠ br := by
            obtain ⟨ra, rc, g1, -, -⟩ := hRd
            have := (g1.below hbB g1.lt).lt
            omega
          have hn63 : b3 < wB.heap.size := (RA3.below hbB RA3.lt).lt
          clear hbB RA2 RA3 TA hRd hTc
          generalize wB.alloc (.cells #[.bool pi, .int .u64 px, .int .u64 py] 31) = wC at RB2 RB3 RB6 RdB TB ⊢
          generalize wB.heap.size = b6 at RB6 hn6 hn63 ⊢
          go_upto_region 11 with fail
          have RdD : RdAt base br (Obol.pfN s (1 + 1)) wC := by rw [hS.out]; exact RdB
          have RD2 := RB2
          have RD3 := RB3
          have RD6 := RB6
          have TD := TB
          clear RB2 RB3 RB6 TB RdB
          generalize wC = wD at RdD RD2 RD3 RD6 TD ⊢
          have k0 := RD6.cell 0 rfl
          have k1 := RD6.cell 1 rfl
          have k2 := RD6.cell 2 rfl
          have e0 := RD3.cell 3 rfl
          have e1 := RD3.cell 4 rfl
          have e2 := RD3.cell 5 rfl
          have f0 := RD3.free 3
          have f1 := RD3.free 4
          have f2 := RD3.free 5
          have HN : Hid (PfW base br b2 b3 s w (1 + 1) (((wD.setCell ⟨b3, 3, none⟩ (.bool pi)).setCell ⟨b3, 4, none⟩ (.int .u64 px)).setCell ⟨b3, 5, none⟩ (.int .u64 py))) := Lib.hid (by
            have hlo := PW.out.lo
            have h23 := PW.out.n23
            obtain ⟨ra, rc, g1, g2, g3⟩ := RdD
            have hbw : base ≤ w.heap.size := hbase.out
            have hB : Below w.heap.size wD (((wD.setCell ⟨b3, 3, none⟩ (.bool pi)).setCell ⟨b3, 4, none⟩ (.int .u64 px)).setCell ⟨b3, 5, none⟩ (.int .u64 py)) := bSet (bSet (bSet (Below.refl _ _) (by omega)) (by omega)) (by omega)
            refine ⟨⟨ra, rc, ((g1.other PW.out.n3.symm).other PW.out.n3.symm).other PW.out.n3.symm, g2.below (hB.mono hbw), g3⟩, ?_, ((RD2.other (by omega)).other (by omega)).other (by omega), ?_, PW.out.n2, PW.out.n3, h23, hlo⟩
            · exact ⟨hB.os.trans TD.os, hB.tape.trans TD.tape, hB.output.trans TD.output, Nat.le_trans TD.size hB.size, fun k hk hn => (hB.block k hk).trans (TD.block k hk hn)⟩
            · rw [hA.out]
              exact ((RD3.set 3 _).set 4 _).set 5 _)
          clear RdD RD2 RD3 RD6 TD
          go_wp2_with fail
          go_roundw
          case rel => exact ⟨1 + 1, by omega, by first | rfl | go_num, HN⟩
          case measure => simp [intOf]
        | none =>
          have hP : Hid (Obol.pfP (Obol.pfN s 1) = (false, 0, 0)) := Lib.hid (by unfold Obol.pfP; rw [hK.out, hcr])
          have hS : Hid (Obol.pfN s (1 + 1) = (true, (Obol.tkS 1 (Obol.pfN s 1)).2)) := Lib.hid (by show Obol.pfS _ = _; unfold Obol.pfS; rw [hK.out, hcr])
          have hV : crdV (Obol.tkM 1 (Obol.pfN s 1)) = .tuple #[ptV false 0 0, errV 3] := by unfold crdV; rw [hcr]
          rw [hV] at cR
          have hA : Hid ((pfA s (1 + 1)) = (#[.bool (Obol.pfV s 1 0).1, .int .u64 (((Obol.pfV s 1 0).2.1 : Nat) : Int), .int .u64 (((Obol.pfV s 1 0).2.2 : Nat) : Int), .bool false, .int .u64 0, .int .u64 0, .bool (Obol.pfV s 1 2).1, .int .u64 (((Obol.pfV s 1 2).2.1 : Nat) : Int), .int .u64 (((Obol.pfV s 1 2).2.2 : Nat) : Int)] : Array Value)) := Lib.hid (by
            have h0 : Obol.pfV s (1 + 1) 1 = (false, 0, 0) := hP.out
            have h1 : (Obol.pfV s (1 + 1) 1).1 = false := by rw [h0]
            have h2 : (((Obol.pfV s (1 + 1) 1).2.1 : Nat) : Int) = 0 := by rw [h0]; rfl
            have h3 : (((Obol.pfV s (1 + 1) 1).2.2 : Nat) : Int) = 0 := by rw [h0]; rfl
            unfold pfA
            rw [h1, h2, h3]
            rfl)
          clear hcr hV
          go_wp2_with fail
          refine cR.out.mono ?_
          rintro e wB ⟨rfl, hbB⟩
          go_upto_region 9 with fail
          have RB2 := (RA2.below hbB RA2.lt).alloc (.cells #[.bool false, .int .u64 0, .int .u64 0] 31)
          have RB3 := (RA3.below hbB RA3.lt).alloc (.cells #[.bool false, .int .u64 0, .int .u64 0] 31)
          have RB6 := Row.new wB #[.bool false, .int .u64 0, .int .u64 0] 31
          have RdB := (hRd.next hbB).next (bAlloc (Below.refl _ wB) (.cells #[.bool false, .int .u64 0, .int .u64 0] 31))
          have TB := (TA.trans (Tch.below hbB)).trans (Tch.below (bAlloc (Below.refl _ wB) (.cells #[.bool false, .int .u64 0, .int .u64 0] 31)))
          have hn6 : wB.heap.size ≠ br := by
            obtain ⟨ra, rc, g1, -, -⟩ := hRd
            have := (g1.below hbB g1.lt).lt
            omega
          have hn63 : b3 < wB.heap.size := (RA3.below hbB RA3.lt).lt
          clear hbB RA2 RA3 TA hRd hTc
          generalize wB.alloc (.cells #[.bool false, .int .u64 0, .int .u64 0] 31) = wC at RB2 RB3 RB6 RdB TB ⊢
          generalize wB.heap.size = b6 at RB6 hn6 hn63 ⊢
          obtain ⟨ra, rc, g1, g2, g3⟩ := RdB
          have q1 := g1.cell 1 rfl
          have qf := g1.free 1
          go_upto_region 11 with fail
          have RdD : RdAt base br (Obol.pfN s (1 + 1)) (wC.setCell ⟨br, 1, none⟩ (.bool true)) := by
            rw [hS.out]
            exact ⟨ra, rc, g1.set 1 _, g2.below (bSet (Below.refl base wC) g3), g3⟩
          have RD2 := RB2.other (v := .bool true) (c := br) (o := 1) PW.out.n2
          have RD3 := RB3.other (v := .bool true) (c := br) (o := 1) PW.out.n3
          have RD6 := RB6.other (v := .bool true) (c := br) (o := 1) hn6
          have TD := TB.trans (Tch.set 1 (.bool true))
          clear g1 g2 q1 qf RB2 RB3 RB6 TB
          generalize wC.setCell ⟨br, 1, none⟩ (.bool true) = wD at RdD RD2 RD3 RD6 TD ⊢
          have k0 := RD6.cell 0 rfl
          have k1 := RD6.cell 1 rfl
          have k2 := RD6.cell 2 rfl
          have e0 := RD3.cell 3 rfl
          have e1 := RD3.cell 4 rfl
          have e2 := RD3.cell 5 rfl
          have f0 := RD3.free 3
          have f1 := RD3.free 4
          have f2 := RD3.free 5
          have HN : Hid (PfW base br b2 b3 s w (1 + 1) (((wD.setCell ⟨b3, 3, none⟩ (.bool false)).setCell ⟨b3, 4, none⟩ (.int .u64 0)).setCell ⟨b3, 5, none⟩ (.int .u64 0))) := Lib.hid (by
            have hlo := PW.out.lo
            have h23 := PW.out.n23
            obtain ⟨ra, rc, g1, g2, g3⟩ := RdD
            have hbw : base ≤ w.heap.size := hbase.out
            have hB : Below w.heap.size wD (((wD.setCell ⟨b3, 3, none⟩ (.bool false)).setCell ⟨b3, 4, none⟩ (.int .u64 0)).setCell ⟨b3, 5, none⟩ (.int .u64 0)) := bSet (bSet (bSet (Below.refl _ _) (by omega)) (by omega)) (by omega)
            refine ⟨⟨ra, rc, ((g1.other PW.out.n3.symm).other PW.out.n3.symm).other PW.out.n3.symm, g2.below (hB.mono hbw), g3⟩, ?_, ((RD2.other (by omega)).other (by omega)).other (by omega), ?_, PW.out.n2, PW.out.n3, h23, hlo⟩
            · exact ⟨hB.os.trans TD.os, hB.tape.trans TD.tape, hB.output.trans TD.output, Nat.le_trans TD.size hB.size, fun k hk hn => (hB.block k hk).trans (TD.block k hk hn)⟩
            · rw [hA.out]
              exact ((RD3.set 3 _).set 4 _).set 5 _)
          clear RdD RD2 RD3 RD6 TD
          go_wp2_with fail
          go_roundw
          case rel => exact ⟨1 + 1, by omega, by first | rfl | go_num, HN⟩
          case measure => simp [intOf]
    · have hRd0 := Lib.hid PW.out.rd
      obtain ⟨ra, rc, g1, g2, g3⟩ := PW.out.rd
      have c0 := g1.cell 0 rfl
      have hlen : ((Obol.pfN s 2).2.length : Int) ≤ 9223372036854775807 := by have := g2.le; have := g2.cap; omega
      by_cases h0 : 0 < (Obol.pfN s 2).2.length
      · obtain ⟨b, o, rfl, hlb, hBL⟩ := g2.bl h0
        have hcb := hBL 0 h0
        rw [Nat.add_zero] at hcb
        obtain ⟨v, hv⟩ : ∃ v : Int, (((Obol.pfN s 2).2.getD 0 0 : Nat) : Int) = v := ⟨_, rfl⟩
        rw [hv] at hcb
        have hd : decide (0 < (Obol.pfN s 2).2.length) = true := decide_eq_true h0
        by_cases h1 : (Obol.pfN s 2).2.getD 0 0 = 1
        · have hK : Hid (Obol.pfK (Obol.pfN s 2) = 17) := Lib.hid (by unfold Obol.pfK; rw [if_pos ⟨h0, h1⟩])
          have cT := Lib.hid (fun W h => rTake base br 17 (Obol.pfN s 2) (by decide) (by decide) W h)
          obtain rfl : v = 1 := by omega
          replace h1 := Lib.hid h1
          replace hv := Lib.hid hv
          clear g1 g2 hBL
          go_wp2_with fail
          refine (cT.out _ hRd0.out).mono ?_
          rintro e wA ⟨⟨v, rfl, qb, qo, qc, rfl, hBL, hbl, hkc, hcm, hne⟩, hRd, hTc⟩
          have cR := Lib.hid (cRead qb qo qc _ wA (by rw [Obol.tkM_len]; exact hkc) hcm hBL (Obol.tkM_lt 17 (Obol.pfN_lt hb.out 2)) 17 (Obol.tkM_len _ _) (by decide))
          have RA2 := hTc.row PW.out.r2 PW.out.n2
          have RA3 := hTc.row PW.out.r3 PW.out.n3
          have TA := PW.out.tc.trans hTc
          clear hBL
          cases hcr : Obol.crd (Obol.tkM 17 (Obol.pfN s 2)) with
          | some p =>
            have hP : Hid (Obol.pfP (Obol.pfN s 2) = p) := Lib.hid (by unfold Obol.pfP; rw [hK.out, hcr])
            have hS : Hid (Obol.pfN s (2 + 1) = Obol.tkS 17 (Obol.pfN s 2)) := Lib.hid (by show Obol.pfS _ = _; unfold Obol.pfS; rw [hK.out, hcr])
            have hV : crdV (Obol.tkM 17 (Obol.pfN s 2)) = .tuple #[ptV p.1 (p.2.1 : Nat) (p.2.2 : Nat), .nilIface] := by unfold crdV; rw [hcr]
            rw [hV] at cR
            obtain ⟨pi, hpi⟩ : ∃ q : Bool, p.1 = q := ⟨_, rfl⟩
            obtain ⟨px, hpx⟩ : ∃ q : Int, ((p.2.1 : Nat) : Int) = q := ⟨_, rfl⟩
            obtain ⟨py, hpy⟩ : ∃ q : Int, ((p.2.2 : Nat) : Int) = q := ⟨_, rfl⟩
            rw [hpi, hpx, hpy] at cR
            have hA : Hid ((pfA s (2 + 1)) = (#[.bool (Obol.pfV s 2 0).1, .int .u64 (((Obol.pfV s 2 0).2.1 : Nat) : Int), .int .u64 (((Obol.pfV s 2 0).2.2 : Nat) : Int), .bool (Obol.pfV s 2 1).1, .int .u64 (((Obol.pfV s 2 1).2.1 : Nat) : Int), .int .u64 (((Obol.pfV s 2 1).2.2 : Nat) : Int), .bool pi, .int .u64 px, .int .u64 py] : Array Value)) := Lib.hid (by rw [← hpi, ← hpx, ← hpy, ← hP.out]; rfl)
            replace hpi := Lib.hid hpi
            replace hpx := Lib.hid hpx
            replace hpy := Lib.hid hpy
            clear hcr hV
            go_wp2_with fail
            refine cR.out.mono ?_
            rintro e wB ⟨rfl, hbB⟩
            go_upto_region 9 with fail
            have RB2 := (RA2.below hbB RA2.lt).alloc (.cells #[.bool pi, .int .u64 px, .int .u64 py] 31)
            have RB3 := (RA3.below hbB RA3.lt).alloc (.cells #[.bool pi, .int .u64 px, .int .u64 py] 31)
            have RB6 := Row.new wB #[.bool pi, .int .u64 px, .int .u64 py] 31
            have RdB := (hRd.next hbB).next (bAlloc (Below.refl _ wB) (.cells #[.bool pi, .int .u64 px, .int .u64 py] 31))
            have TB := (TA.trans (Tch.below hbB)).trans (Tch.below (bAlloc (Below.refl _ wB) (.cells #[.bool pi, .int .u64 px, .int .u64 py] 31)))
            have hn6 : wB.heap.size ≠ br := by
              obtain ⟨ra, rc, g1, -, -⟩ := hRd
              have := (g1.below hbB g1.lt).lt
              omega
            have hn63 : b3 < wB.heap.size := (RA3.below hbB RA3.lt).lt
            clear hbB RA2 RA3 TA hRd hTc
            generalize wB.alloc (.cells #[.bool pi, .int .u64 px, .int .u64 py] 31) = wC at RB2 RB3 RB6 RdB TB ⊢
            generalize wB.heap.size = b6 at RB6 hn6 hn63 ⊢
            go_upto_region 11 with fail
            have RdD : RdAt base br (Obol.pfN s (2 + 1)) wC := by rw [hS.out]; exact RdB
            have RD2 := RB2
            have RD3 := RB3
            have RD6 := RB6
            have TD := TB
            clear RB2 RB3 RB6 TB RdB
            generalize wC = wD at RdD RD2 RD3 RD6 TD ⊢
            have k0 := RD6.cell 0 rfl
            have k1 := RD6.cell 1 rfl
            have k2 := RD6.cell 2 rfl
            have e0 := RD3.cell 6 rfl
            have e1 := RD3.cell 7 rfl
            have e2 := RD3.cell 8 rfl
            have f0 := RD3.free 6
            have f1 := RD3.free 7
            have f2 := RD3.free 8
            have HN : Hid (PfW base br b2 b3 s w (2 + 1) (((wD.setCell ⟨b3, 6, none⟩ (.bool pi)).setCell ⟨b3, 7, none⟩ (.int .u64 px)).setCell ⟨b3, 8, none⟩ (.int .u64 py))) := Lib.hid (by
              have hlo := PW.out.lo
              have h23 := PW.out.n23
              obtain ⟨ra, rc, g1, g2, g3⟩ := RdD
              have hbw : base ≤ w.heap.size := hbase.out
              have hB : Below w.heap.size wD (((wD.setCell ⟨b3, 6, none⟩ (.bool pi)).setCell ⟨b3, 7, none⟩ (.int .u64 px)).setCell ⟨b3, 8, none⟩ (.int .u64 py)) := bSet (bSet (bSet (Below.refl _ _) (by omega)) (by omega)) (by omega)
              refine ⟨⟨ra, rc, ((g1.other PW.out.n3.symm).other PW.out.n3.symm).other PW.out.n3.symm, g2.below (hB.mono hbw), g3⟩, ?_, ((RD2.other (by omega)).other (by omega)).other (by omega), ?_, PW.out.n2, PW.out.n3, h23, hlo⟩
              · exact ⟨hB.os.trans TD.os, hB.tape.trans TD.tape, hB.output.trans TD.output, Nat.le_trans TD.size hB.size, fun k hk hn => (hB.block k hk).trans (TD.block k hk hn)⟩
              · rw [hA.out]
                exact ((RD3.set 6 _).set 7 _).set 8 _)
            clear RdD RD2 RD3 RD6 TD
            go_wp2_with fail
            go_roundw
            case rel => exact ⟨2 + 1, by omega, by first | rfl | go_num, HN⟩
            case measure => simp [intOf]
          | none =>
            have hP : Hid (Obol.pfP (Obol.pfN s 2) = (false, 0, 0)) := Lib.hid (by unfold Obol.pfP; rw [hK.out, hcr])
            have hS : Hid (Obol.pfN s (2 + 1) = (true, (Obol.tkS 17 (Obol.pfN s 2)).2)) := Lib.hid (by show Obol.pfS _ = _; unfold Obol.pfS; rw [hK.out, hcr])
            have hV : crdV (Obol.tkM 17 (Obol.pfN s 2)) = .tuple #[ptV false 0 0, errV 3] := by unfold crdV; rw [hcr]
            rw [hV] at cR
            have hA : Hid ((pfA s (2 + 1)) = (#[.bool (Obol.pfV s 2 0).1, .int .u64 (((Obol.pfV s 2 0).2.1 : Nat) : Int), .int .u64 (((Obol.pfV s 2 0).2.2 : Nat) : Int), .bool (Obol.pfV s 2 1).1, .int .u64 (((Obol.pfV s 2 1).2.1 : Nat) : Int), .int .u64 (((Obol.pfV s 2 1).2.2 : Nat) : Int), .bool false, .int .u64 0, .int .u64 0] : Array Value)) := Lib.hid (by
              have h0 : Obol.pfV s (2 + 1) 2 = (false, 0, 0) := hP.out
              have h1 : (Obol.pfV s (2 + 1) 2).1 = false := by rw [h0]
              have h2 : (((Obol.pfV s (2 + 1) 2).2.1 : Nat) : Int) = 0 := by rw [h0]; rfl
              have h3 : (((Obol.pfV s (2 + 1) 2).2.2 : Nat) : Int) = 0 := by rw [h0]; rfl
              unfold pfA
              rw [h1, h2, h3]
              rfl)
            clear hcr hV
            go_wp2_with fail
            refine cR.out.mono ?_
            rintro e wB ⟨rfl, hbB⟩
            go_upto_region 9 with fail
            have RB2 := (RA2.below hbB RA2.lt).alloc (.cells #[.bool false, .int .u64 0, .int .u64 0] 31)
            have RB3 := (RA3.below hbB RA3.lt).alloc (.cells #[.bool false, .int .u64 0, .int .u64 0] 31)
            have RB6 := Row.new wB #[.bool false, .int .u64 0, .int .u64 0] 31
            have RdB := (hRd.next hbB).next (bAlloc (Below.refl _ wB) (.cells #[.bool false, .int .u64 0, .int .u64 0] 31))
            have TB := (TA.trans (Tch.below hbB)).trans (Tch.below (bAlloc (Below.refl _ wB) (.cells #[.bool false, .int .u64 0, .int .u64 0] 31)))
            have hn6 : wB.heap.size ≠ br := by
              obtain ⟨ra, rc, g1, -, -⟩ := hRd
              have := (g1.below hbB g1.lt).lt
              omega
            have hn63 : b3 < wB.heap.size := (RA3.below hbB RA3.lt).lt
            clear hbB RA2 RA3 TA hRd hTc
            generalize wB.alloc (.cells #[.bool false, .int .u64 0, .int .u64 0] 31) = wC at RB2 RB3 RB6 RdB TB ⊢
            generalize wB.heap.size = b6 at RB6 hn6 hn63 ⊢
            obtain ⟨ra, rc, g1, g2, g3⟩ := RdB
            have q1 := g1.cell 1 rfl
            have qf := g1.free 1
            go_upto_region 11 with fail
            have RdD : RdAt base br (Obol.pfN s (2 + 1)) (wC.setCell ⟨br, 1, none⟩ (.bool true)) := by
              rw [hS.out]
              exact ⟨ra, rc, g1.set 1 _, g2.below (bSet (Below.refl base wC) g3), g3⟩
            have RD2 := RB2.other (v := .bool true) (c := br) (o := 1) PW.out.n2
            have RD3 := RB3.other (v := .bool true) (c := br) (o := 1) PW.out.n3
            have RD6 := RB6.other (v := .bool true) (c := br) (o := 1) hn6
            have TD := TB.trans (Tch.set 1 (.bool true))
            clear g1 g2 q1 qf RB2 RB3 RB6 TB
            generalize wC.setCell ⟨br, 1, none⟩ (.bool true) = wD at RdD RD2 RD3 RD6 TD ⊢
            have k0 := RD6.cell 0 rfl
            have k1 := RD6.cell 1 rfl
            have k2 := RD6.cell 2 rfl
            have e0 := RD3.cell 6 rfl
            have e1 := RD3.cell 7 rfl
            have e2 := RD3.cell 8 rfl
            have f0 := RD3.free 6
            have f1 := RD3.free 7
            have f2 := RD3.free 8
            have HN : Hid (PfW base br b2 b3 s w (2 + 1) (((wD.setCell ⟨b3, 6, none⟩ (.bool false)).setCell ⟨b3, 7, none⟩ (.int .u64 0)).setCell ⟨b3, 8, none⟩ (.int .u64 0))) := Lib.hid (by
              have hlo := PW.out.lo
              have h23 := PW.out.n23
              obtain ⟨ra, rc, g1, g2, g3⟩ := RdD
              have hbw : base ≤ w.heap.size := hbase.out
              have hB : Below w.heap.size wD (((wD.setCell ⟨b3, 6, none⟩ (.bool false)).setCell ⟨b3, 7, none⟩ (.int .u64 0)).setCell ⟨b3, 8, none⟩ (.int .u64 0)) := bSet (bSet (bSet (Below.refl _ _) (by omega)) (by omega)) (by omega)
              refine ⟨⟨ra, rc, ((g1.other PW.out.n3.symm).other PW.out.n3.symm).other PW.out.n3.symm, g2.below (hB.mono hbw), g3⟩, ?_, ((RD2.other (by omega)).other (by omega)).other (by omega), ?_, PW.out.n2, PW.out.n3, h23, hlo⟩
              · exact ⟨hB.os.trans TD.os, hB.tape.trans TD.tape, hB.output.trans TD.output, Nat.le_trans TD.size hB.size, fun k hk hn => (hB.block k hk).trans (TD.block k hk hn)⟩
              · rw [hA.out]
                exact ((RD3.set 6 _).set 7 _).set 8 _)
            clear RdD RD2 RD3 RD6 TD
            go_wp2_with fail
            go_roundw
            case rel => exact ⟨2 + 1, by omega, by first | rfl | go_num, HN⟩
            case measure => simp [intOf]
        · have hK : Hid (Obol.pfK (Obol.pfN s 2) = 1) := Lib.hid (by unfold Obol.pfK; rw [if_neg (fun h => h1 h.2)])
          have cT := Lib.hid (fun W h => rTake base br 1 (Obol.pfN s 2) (by decide) (by decide) W h)
          have hv1 : (v == 1) = false := beq_eq_false_iff_ne.2 (by omega)
          replace h1 := Lib.hid h1
          replace hv := Lib.hid hv
          clear g1 g2 hBL
          go_wp2_with fail
          refine (cT.out _ hRd0.out).mono ?_
          rintro e wA ⟨⟨v, rfl, qb, qo, qc, rfl, hBL, hbl, hkc, hcm, hne⟩, hRd, hTc⟩
          have cR := Lib.hid (cRead qb qo qc _ wA (by rw [Obol.tkM_len]; exact hkc) hcm hBL (Obol.tkM_lt 1 (Obol.pfN_lt hb.out 2)) 1 (Obol.tkM_len _ _) (by decide))
          have RA2 := hTc.row PW.out.r2 PW.out.n2
          have RA3 := hTc.row PW.out.r3 PW.out.n3
          have TA := PW.out.tc.trans hTc
          clear hBL
          cases hcr : Obol.crd (Obol.tkM 1 (Obol.pfN s 2)) with
          | some p =>
            have hP : Hid (Obol.pfP (Obol.pfN s 2) = p) := Lib.hid (by unfold Obol.pfP; rw [hK.out, hcr])
            have hS : Hid (Obol.pfN s (2 + 1) = Obol.tkS 1 (Obol.pfN s 2)) := Lib.hid (by show Obol.pfS _ = _; unfold Obol.pfS; rw [hK.out, hcr])
            have hV : crdV (Obol.tkM 1 (Obol.pfN s 2)) = .tuple #[ptV p.1 (p.2.1 : Nat) (p.2.2 : Nat), .nilIface] := by unfold crdV; rw [hcr]
            rw [hV] at cR
            obtain ⟨pi, hpi⟩ : ∃ q : Bool, p.1 = q := ⟨_, rfl⟩
            obtain ⟨px, hpx⟩ : ∃ q : Int, ((p.2.1 : Nat) : Int) = q := ⟨_, rfl⟩
            obtain ⟨py, hpy⟩ : ∃ q : Int, ((p.2.2 : Nat) : Int) = q := ⟨_, rfl⟩
            rw [hpi, hpx, hpy] at cR
            have hA : Hid ((pfA s (2 + 1)) = (#[.bool (Obol.pfV s 2 0).1, .int .u64 (((Obol.pfV s 2 0).2.1 : Nat) : Int), .int .u64 (((Obol.pfV s 2 0).2.2 : Nat) : Int), .bool (Obol.pfV s 2 1).1, .int .u64 (((Obol.pfV s 2 1).2.1 : Nat) : Int), .int .u64 (((Obol.pfV s 2 1).2.2 : Nat) : Int), .bool pi, .int .u64 px, .int .u64 py] : Array Value)) := Lib.hid (by rw [← hpi, ← hpx, ← hpy, ← hP.out]; rfl)
            replace hpi := Lib.hid hpi
            replace hpx := Lib.hid hpx
            replace hpy := Lib.hid hpy
            clear hcr hV
            go_wp2_with fail
            refine cR.out.mono ?_
            rintro e wB ⟨rfl, hbB⟩
            go_upto_region 9 with fail
            have RB2 := (RA2.below hbB RA2.lt).alloc (.cells #[.bool pi, .int .u64 px, .int .u64 py] 31)
            have RB3 := (RA3.below hbB RA3.lt).alloc (.cells #[.bool pi, .int .u64 px, .int .u64 py] 31)
            have RB6 := Row.new wB #[.bool pi, .int .u64 px, .int .u64 py] 31
            have RdB := (hRd.next hbB).next (bAlloc (Below.refl _ wB) (.cells #[.bool pi, .int .u64 px, .int .u64 py] 31))
            have TB := (TA.trans (Tch.below hbB)).trans (Tch.below (bAlloc (Below.refl _ wB) (.cells #[.bool pi, .int .u64 px, .int .u64 py] 31)))
            have hn6 : wB.heap.size ≠ br := by
              obtain ⟨ra, rc, g1, -, -⟩ := hRd
              have := (g1.below hbB g1.lt).lt
              omega
            have hn63 : b3 < wB.heap.size := (RA3.below hbB RA3.lt).lt
            clear hbB RA2 RA3 TA hRd hTc
            generalize wB.alloc (.cells #[.bool pi, .int .u64 px, .int .u64 py] 31) = wC at RB2 RB3 RB6 RdB TB ⊢
            generalize wB.heap.size = b6 at RB6 hn6 hn63 ⊢
            go_upto_region 11 with fail
            have RdD : RdAt base br (Obol.pfN s (2 + 1)) wC := by rw [hS.out]; exact RdB
            have RD2 := RB2
            have RD3 := RB3
            have RD6 := RB6
            have TD := TB
            clear RB2 RB3 RB6 TB RdB
            generalize wC = wD at RdD RD2 RD3 RD6 TD ⊢
            have k0 := RD6.cell 0 rfl
            have k1 := RD6.cell 1 rfl
            have k2 := RD6.cell 2 rfl
            have e0 := RD3.cell 6 rfl
            have e1 := RD3.cell 7 rfl
            have e2 := RD3.cell 8 rfl
            have f0 := RD3.free 6
            have f1 := RD3.free 7
            have f2 := RD3.free 8
            have HN : Hid (PfW base br b2 b3 s w (2 + 1) (((wD.setCell ⟨b3, 6, none⟩ (.bool pi)).setCell ⟨b3, 7, none⟩ (.int .u64 px)).setCell ⟨b3, 8, none⟩ (.int .u64 py))) := Lib.hid (by
              have hlo := PW.out.lo
              have h23 := PW.out.n23
              obtain ⟨ra, rc, g1, g2, g3⟩ := RdD
              have hbw : base ≤ w.heap.size := hbase.out
              have hB : Below w.heap.size wD (((wD.setCell ⟨b3, 6, none⟩ (.bool pi)).setCell ⟨b3, 7, none⟩ (.int .u64 px)).setCell ⟨b3, 8, none⟩ (.int .u64 py)) := bSet (bSet (bSet (Below.refl _ _) (by omega)) (by omega)) (by omega)
              refine ⟨⟨ra, rc, ((g1.other PW.out.n3.symm).other PW.out.n3.symm).other PW.out.n3.symm, g2.below (hB.mono hbw), g3⟩, ?_, ((RD2.other (by omega)).other (by omega)).other (by omega), ?_, PW.out.n2, PW.out.n3, h23, hlo⟩
              · exact ⟨hB.os.trans TD.os, hB.tape.trans TD.tape, hB.output.trans TD.output, Nat.le_trans TD.size hB.size, fun k hk hn => (hB.block k hk).trans (TD.block k hk hn)⟩
              · rw [hA.out]
                exact ((RD3.set 6 _).set 7 _).set 8 _)
            clear RdD RD2 RD3 RD6 TD
            go_wp2_with fail
            go_roundw
            case rel => exact ⟨2 + 1, by omega, by first | rfl | go_num, HN⟩
            case measure => simp [intOf]
          | none =>
            have hP : Hid (Obol.pfP (Obol.pfN s 2) = (false, 0, 0)) := Lib.hid (by unfold Obol.pfP; rw [hK.out, hcr])
            have hS : Hid (Obol.pfN s (2 + 1) = (true, (Obol.tkS 1 (Obol.pfN s 2)).2)) := Lib.hid (by show Obol.pfS _ = _; unfold Obol.pfS; rw [hK.out, hcr])
            have hV : crdV (Obol.tkM 1 (Obol.pfN s 2)) = .tuple #[ptV false 0 0, errV 3] := by unfold crdV; rw [hcr]
            rw [hV] at cR
            have hA : Hid ((pfA s (2 + 1)) = (#[.bool (Obol.pfV s 2 0).1, .int .u64 (((Obol.pfV s 2 0).2.1 : Nat) : Int), .int .u64 (((Obol.pfV s 2 0).2.2 : Nat) : Int), .bool (Obol.pfV s 2 1).1, .int .u64 (((Obol.pfV s 2 1).2.1 : Nat) : Int), .int .u64 (((Obol.pfV s 2 1).2.2 : Nat) : Int), .bool false, .int .u64 0, .int .u64 0] : Array Value)) := Lib.hid (by
              have h0 : Obol.pfV s (2 + 1) 2 = (false, 0, 0) := hP.out
              have h1 : (Obol.pfV s (2 + 1) 2).1 = false := by rw [h0]
              have h2 : (((Obol.pfV s (2 + 1) 2).2.1 : Nat) : Int) = 0 := by rw [h0]; rfl
              have h3 : (((Obol.pfV s (2 + 1) 2).2.2 : Nat) : Int) = 0 := by rw [h0]; rfl
              unfold pfA
              rw [h1, h2, h3]
              rfl)
            clear hcr hV
            go_wp2_with fail
            refine cR.out.mono ?_
            rintro e wB ⟨rfl, hbB⟩
            go_upto_region 9 with fail
            have RB2 := (RA2.below hbB RA2.lt).alloc (.cells #[.bool false, .int .u64 0, .int .u64 0] 31)
            have RB3 := (RA3.below hbB RA3.lt).alloc (.cells #[.bool false, .int .u64 0, .int .u64 0] 31)
            have RB6 := Row.new wB #[.bool false, .int .u64 0, .int .u64 0] 31
            have RdB := (hRd.next hbB).next (bAlloc (Below.refl _ wB) (.cells #[.bool false, .int .u64 0, .int .u64 0] 31))
            have TB := (TA.trans (Tch.below hbB)).trans (Tch.below (bAlloc (Below.refl _ wB) (.cells #[.bool false, .int .u64 0, .int .u64 0] 31)))
            have hn6 : wB.heap.size ≠ br := by
              obtain ⟨ra, rc, g1, -, -⟩ := hRd
              have := (g1.below hbB g1.lt).lt
              omega
            have hn63 : b3 < wB.heap.size := (RA3.below hbB RA3.lt).lt
            clear hbB RA2 RA3 TA hRd hTc
            generalize wB.alloc (.cells #[.bool false, .int .u64 0, .int .u64 0] 31) = wC at RB2 RB3 RB6 RdB TB ⊢
            generalize wB.heap.size = b6 at RB6 hn6 hn63 ⊢
            obtain ⟨ra, rc, g1, g2, g3⟩ := RdB
            have q1 := g1.cell 1 rfl
            have qf := g1.free 1
            go_upto_region 11 with fail
            have RdD : RdAt base br (Obol.pfN s (2 + 1)) (wC.setCell ⟨br, 1, none⟩ (.bool true)) := by
              rw [hS.out]
              exact ⟨ra, rc, g1.set 1 _, g2.below (bSet (Below.refl base wC) g3), g3⟩
            have RD2 := RB2.other (v := .bool true) (c := br) (o := 1) PW.out.n2
            have RD3 := RB3.other (v := .bool true) (c := br) (o := 1) PW.out.n3
            have RD6 := RB6.other (v := .bool true) (c := br) (o := 1) hn6
            have TD := TB.trans (Tch.set 1 (.bool true))
            clear g1 g2 q1 qf RB2 RB3 RB6 TB
            generalize wC.setCell ⟨br, 1, none⟩ (.bool true) = wD at RdD RD2 RD3 RD6 TD ⊢
            have k0 := RD6.cell 0 rfl
            have k1 := RD6.cell 1 rfl
            have k2 := RD6.cell 2 rfl
            have e0 := RD3.cell 6 rfl
            have e1 := RD3.cell 7 rfl
            have e2 := RD3.cell 8 rfl
            have f0 := RD3.free 6
            have f1 := RD3.free 7
            have f2 := RD3.free 8
            have HN : Hid (PfW base br b2 b3 s w (2 + 1) (((wD.setCell ⟨b3, 6, none⟩ (.bool false)).setCell ⟨b3, 7, none⟩ (.int .u64 0)).setCell ⟨b3, 8, none⟩ (.int .u64 0))) := Lib.hid (by
              have hlo := PW.out.lo
              have h23 := PW.out.n23
              obtain ⟨ra, rc, g1, g2, g3⟩ := RdD
              have hbw : base ≤ w.heap.size := hbase.out
              have hB : Below w.heap.size wD (((wD.setCell ⟨b3, 6, none⟩ (.bool false)).setCell ⟨b3, 7, none⟩ (.int .u64 0)).setCell ⟨b3, 8, none⟩ (.int .u64 0)) := bSet (bSet (bSet (Below.refl _ _) (by omega)) (by omega)) (by omega)
              refine ⟨⟨ra, rc, ((g1.other PW.out.n3.symm).other PW.out.n3.symm).other PW.out.n3.symm, g2.below (hB.mono hbw), g3⟩, ?_, ((RD2.other (by omega)).other (by omega)).other (by omega), ?_, PW.out.n2, PW.out.n3, h23, hlo⟩
              · exact ⟨hB.os.trans TD.os, hB.tape.trans TD.tape, hB.output.trans TD.output, Nat.le_trans TD.size hB.size, fun k hk hn => (hB.block k hk).trans (TD.block k hk hn)⟩
              · rw [hA.out]
                exact ((RD3.set 6 _).set 7 _).set 8 _)
            clear RdD RD2 RD3 RD6 TD
            go_wp2_with fail
            go_roundw
            case rel => exact ⟨2 + 1, by omega, by first | rfl | go_num, HN⟩
            case measure => simp [intOf]
      · have hK : Hid (Obol.pfK (Obol.pfN s 2) = 1) := Lib.hid (by unfold Obol.pfK; rw [if_neg (fun h => h0 h.1)])
        have cT := Lib.hid (fun W h => rTake base br 1 (Obol.pfN s 2) (by decide) (by decide) W h)
        have hd : decide (0 < (Obol.pfN s 2).2.length) = false := decide_eq_false h0
        clear g1 g2
        go_wp2_with fail
        refine (cT.out _ hRd0.out).mono ?_
        rintro e wA ⟨⟨v, rfl, qb, qo, qc, rfl, hBL, hbl, hkc, hcm, hne⟩, hRd, hTc⟩
        have cR := Lib.hid (cRead qb qo qc _ wA (by rw [Obol.tkM_len]; exact hkc) hcm hBL (Obol.tkM_lt 1 (Obol.pfN_lt hb.out 2)) 1 (Obol.tkM_len _ _) (by decide))
        have RA2 := hTc.row PW.out.r2 PW.out.n2
        have RA3 := hTc.row PW.out.r3 PW.out.n3
        have TA := PW.out.tc.trans hTc
        clear hBL
        cases hcr : Obol.crd (Obol.tkM 1 (Obol.pfN s 2)) with
        | some p =>
          have hP : Hid (Obol.pfP (Obol.pfN s 2) = p) := Lib.hid (by unfold Obol.pfP; rw [hK.out, hcr])
          have hS : Hid (Obol.pfN s (2 + 1) = Obol.tkS 1 (Obol.pfN s 2)) := Lib.hid (by show Obol.pfS _ = _; unfold Obol.pfS; rw [hK.out, hcr])
          have hV : crdV (Obol.tkM 1 (Obol.pfN s 2)) = .tuple #[ptV p.1 (p.2.1 : Nat) (p.2.2 : Nat), .nilIface] := by unfold crdV; rw [hcr]
          rw [hV] at cR
          obtain ⟨pi, hpi⟩ : ∃ q : Bool, p.1 = q := ⟨_, rfl⟩
          obtain ⟨px, hpx⟩ : ∃ q : Int, ((p.2.1 : Nat) : Int) = q := ⟨_, rfl⟩
          obtain ⟨py, hpy⟩ : ∃ q : Int, ((p.2.2 : Nat) : Int) = q := ⟨_, rfl⟩
          rw [hpi, hpx, hpy] at cR
          have hA : Hid ((pfA s (2 + 1)) = (#[.bool (Obol.pfV s 2 0).1, .int .u64 (((Obol.pfV s 2 0).2.1 : Nat) : Int), .int .u64 (((Obol.pfV s 2 0).2.2 : Nat) : Int), .bool (Obol.pfV s 2 1).1, .int .u64 (((Obol.pfV s 2 1).2.1 : Nat) : Int), .int .u64 (((Obol.pfV s 2 1).2.2 : Nat) : Int), .bool pi, .int .u64 px, .int .u64 py] : Array Value)) := Lib.hid (by rw [← hpi, ← hpx, ← hpy, ← hP.out]; rfl)
          replace hpi := Lib.hid hpi
          replace hpx := Lib.hid hpx
          replace hpy := Lib.hid hpy
          clear hcr hV
          go_wp2_with fail
          refine cR.out.mono ?_
          rintro e wB ⟨rfl, hbB⟩
          go_upto_region 9 with fail
          have RB2 := (RA2.below hbB RA2.lt).alloc (.cells #[.bool pi, .int .u64 px, .int .u64 py] 31)
          have RB3 := (RA3.below hbB RA3.lt).alloc (.cells #[.bool pi, .int .u64 px, .int .u64 py] 31)
          have RB6 := Row.new wB #[.bool pi, .int .u64 px, .int .u64 py] 31
          have RdB := (hRd.next hbB).next (bAlloc (Below.refl _ wB) (.cells #[.bool pi, .int .u64 px, .int .u64 py] 31))
          have TB := (TA.trans (Tch.below hbB)).trans (Tch.below (bAlloc (Below.refl _ wB) (.cells #[.bool pi, .int .u64 px, .int .u64 py] 31)))
          have hn6 : wB.heap.size ≠ br := by
            obtain ⟨ra, rc, g1, -, -⟩ := hRd
            have := (g1.below hbB g1.lt).lt
            omega
          have hn63 : b3 < wB.heap.size := (RA3.below hbB RA3.lt).lt
          clear hbB RA2 RA3 TA hRd hTc
          generalize wB.alloc (.cells #[.bool pi, .int .u64 px, .int .u64 py] 31) = wC at RB2 RB3 RB6 RdB TB ⊢
          generalize wB.heap.size = b6 at RB6 hn6 hn63 ⊢
          go_upto_region 11 with fail
          have RdD : RdAt base br (Obol.pfN s (2 + 1)) wC := by rw [hS.out]; exact RdB
          have RD2 := RB2
          have RD3 := RB3
          have RD6 := RB6
          have TD := TB
          clear RB2 RB3 RB6 TB RdB
          generalize wC = wD at RdD RD2 RD3 RD6 TD ⊢
          have k0 := RD6.cell 0 rfl
          have k1 := RD6.cell 1 rfl
          have k2 := RD6.cell 2 rfl
          have e0 := RD3.cell 6 rfl
          have e1 := RD3.cell 7 rfl
          have e2 := RD3.cell 8 rfl
          have f0 := RD3.free 6
          have f1 := RD3.free 7
          have f2 := RD3.free 8
          have HN : Hid (PfW base br b2 b3 s w (2 + 1) (((wD.setCell ⟨b3, 6, none⟩ (.bool pi)).setCell ⟨b3, 7, none⟩ (.int .u64 px)).setCell ⟨b3, 8, none⟩ (.int .u64 py))) := Lib.hid (by
            have hlo := PW.out.lo
            have h23 := PW.out.n23
            obtain ⟨ra, rc, g1, g2, g3⟩ := RdD
            have hbw : base ≤ w.heap.size := hbase.out
            have hB : Below w.heap.size wD (((wD.setCell ⟨b3, 6, none⟩ (.bool pi)).setCell ⟨b3, 7, none⟩ (.int .u64 px)).setCell ⟨b3, 8, none⟩ (.int .u64 py)) := bSet (bSet (bSet (Below.refl _ _) (by omega)) (by omega)) (by omega)
            refine ⟨⟨ra, rc, ((g1.other PW.out.n3.symm).other PW.out.n3.symm).other PW.out.n3.symm, g2.below (hB.mono hbw), g3⟩, ?_, ((RD2.other (by omega)).other (by omega)).other (by omega), ?_, PW.out.n2, PW.out.n3, h23, hlo⟩
            · exact ⟨hB.os.trans TD.os, hB.tape.trans TD.tape, hB.output.trans TD.output, Nat.le_trans TD.size hB.size, fun k hk hn => (hB.block k hk).trans (TD.block k hk hn)⟩
            · rw [hA.out]
              exact ((RD3.set 6 _).set 7 _).set 8 _)
          clear RdD RD2 RD3 RD6 TD
          go_wp2_with fail
          go_roundw
          case rel => exact ⟨2 + 1, by omega, by first | rfl | go_num, HN⟩
          case measure => simp [intOf]
        | none =>
          have hP : Hid (Obol.pfP (Obol.pfN s 2) = (false, 0, 0)) := Lib.hid (by unfold Obol.pfP; rw [hK.out, hcr])
          have hS : Hid (Obol.pfN s (2 + 1) = (true, (Obol.tkS 1 (Obol.pfN s 2)).2)) := Lib.hid (by show Obol.pfS _ = _; unfold Obol.pfS; rw [hK.out, hcr])
          have hV : crdV (Obol.tkM 1 (Obol.pfN s 2)) = .tuple #[ptV false 0 0, errV 3] := by unfold crdV; rw [hcr]
          rw [hV] at cR
          have hA : Hid ((pfA s (2 + 1)) = (#[.bool (Obol.pfV s 2 0).1, .int .u64 (((Obol.pfV s 2 0).2.1 : Nat) : Int), .int .u64 (((Obol.pfV s 2 0).2.2 : Nat) : Int), .bool (Obol.pfV s 2 1).1, .int .u64 (((Obol.pfV s 2 1).2.1 : Nat) : Int), .int .u64 (((Obol.pfV s 2 1).2.2 : Nat) : Int), .bool false, .int .u64 0, .int .u64 0] : Array Value)) := Lib.hid (by
            have h0 : Obol.pfV s (2 + 1) 2 = (false, 0, 0) := hP.out
            have h1 : (Obol.pfV s (2 + 1) 2).1 = false := by rw [h0]
            have h2 : (((Obol.pfV s (2 + 1) 2).2.1 : Nat) : Int) = 0 := by rw [h0]; rfl
            have h3 : (((Obol.pfV s (2 + 1) 2).2.2 : Nat) : Int) = 0 := by rw [h0]; rfl
            unfold pfA
            rw [h1, h2, h3]
            rfl)
          clear hcr hV
          go_wp2_with fail
          refine cR.out.mono ?_
          rintro e wB ⟨rfl, hbB⟩
          go_upto_region 9 with fail
          have RB2 := (RA2.below hbB RA2.lt).alloc (.cells #[.bool false, .int .u64 0, .int .u64 0] 31)
          have RB3 := (RA3.below hbB RA3.lt).alloc (.cells #[.bool false, .int .u64 0, .int .u64 0] 31)
          have RB6 := Row.new wB #[.bool false, .int .u64 0, .int .u64 0] 31
          have RdB := (hRd.next hbB).next (bAlloc (Below.refl _ wB) (.cells #[.bool false, .int .u64 0, .int .u64 0] 31))
          have TB := (TA.trans (Tch.below hbB)).trans (Tch.below (bAlloc (Below.refl _ wB) (.cells #[.bool false, .int .u64 0, .int .u64 0] 31)))
          have hn6 : wB.heap.size ≠ br := by
            obtain ⟨ra, rc, g1, -, -⟩ := hRd
            have := (g1.below hbB g1.lt).lt
            omega
          have hn63 : b3 < wB.heap.size := (RA3.below hbB RA3.lt).lt
          clear hbB RA2 RA3 TA hRd hTc
          generalize wB.alloc (.cells #[.bool false, .int .u64 0, .int .u64 0] 31) = wC at RB2 RB3 RB6 RdB TB ⊢
          generalize wB.heap.size = b6 at RB6 hn6 hn63 ⊢
          obtain ⟨ra, rc, g1, g2, g3⟩ := RdB
          have q1 := g1.cell 1 rfl
          have qf := g1.free 1
          go_upto_region 11 with fail
          have RdD : RdAt base br (Obol.pfN s (2 + 1)) (wC.setCell ⟨br, 1, none⟩ (.bool true)) := by
            rw [hS.out]
            exact ⟨ra, rc, g1.set 1 _, g2.below (bSet (Below.refl base wC) g3), g3⟩
          have RD2 := RB2.other (v := .bool true) (c := br) (o := 1) PW.out.n2
          have RD3 := RB3.other (v := .bool true) (c := br) (o := 1) PW.out.n3
          have RD6 := RB6.other (v := .bool true) (c := br) (o := 1) hn6
          have TD := TB.trans (Tch.set 1 (.bool true))
          clear g1 g2 q1 qf RB2 RB3 RB6 TB
          generalize wC.setCell ⟨br, 1, none⟩ (.bool true) = wD at RdD RD2 RD3 RD6 TD ⊢
          have k0 := RD6.cell 0 rfl
          have k1 := RD6.cell 1 rfl
          have k2 := RD6.cell 2 rfl
          have e0 := RD3.cell 6 rfl
          have e1 := RD3.cell 7 rfl
          have e2 := RD3.cell 8 rfl
          have f0 := RD3.free 6
          have f1 := RD3.free 7
          have f2 := RD3.free 8
          have HN : Hid (PfW base br b2 b3 s w (2 + 1) (((wD.setCell ⟨b3, 6, none⟩ (.bool false)).setCell ⟨b3, 7, none⟩ (.int .u64 0)).setCell ⟨b3, 8, none⟩ (.int .u64 0))) := Lib.hid (by
            have hlo := PW.out.lo
            have h23 := PW.out.n23
            obtain ⟨ra, rc, g1, g2, g3⟩ := RdD
            have hbw : base ≤ w.heap.size := hbase.out
            have hB : Below w.heap.size wD (((wD.setCell ⟨b3, 6, none⟩ (.bool false)).setCell ⟨b3, 7, none⟩ (.int .u64 0)).setCell ⟨b3, 8, none⟩ (.int .u64 0)) := bSet (bSet (bSet (Below.refl _ _) (by omega)) (by omega)) (by omega)
            refine ⟨⟨ra, rc, ((g1.other PW.out.n3.symm).other PW.out.n3.symm).other PW.out.n3.symm, g2.below (hB.mono hbw), g3⟩, ?_, ((RD2.other (by omega)).other (by omega)).other (by omega), ?_, PW.out.n2, PW.out.n3, h23, hlo⟩
            · exact ⟨hB.os.trans TD.os, hB.tape.trans TD.tape, hB.output.trans TD.output, Nat.le_trans TD.size hB.size, fun k hk hn => (hB.block k hk).trans (TD.block k hk hn)⟩
            · rw [hA.out]
              exact ((RD3.set 6 _).set 7 _).set 8 _)
          clear RdD RD2 RD3 RD6 TD
          go_wp2_with fail
          go_roundw
          case rel => exact ⟨2 + 1, by omega, by first | rfl | go_num, HN⟩
          case measure => simp [intOf]
    · obtain ⟨pi0, hpi0⟩ : ∃ q : Bool, (Obol.pfV s 3 0).1 = q := ⟨_, rfl⟩
      obtain ⟨px0, hpx0⟩ : ∃ q : Int, (((Obol.pfV s 3 0).2.1 : Nat) : Int) = q := ⟨_, rfl⟩
      obtain ⟨py0, hpy0⟩ : ∃ q : Int, (((Obol.pfV s 3 0).2.2 : Nat) : Int) = q := ⟨_, rfl⟩
      obtain ⟨pi1, hpi1⟩ : ∃ q : Bool, (Obol.pfV s 3 1).1 = q := ⟨_, rfl⟩
      obtain ⟨px1, hpx1⟩ : ∃ q : Int, (((Obol.pfV s 3 1).2.1 : Nat) : Int) = q := ⟨_, rfl⟩
      obtain ⟨py1, hpy1⟩ : ∃ q : Int, (((Obol.pfV s 3 1).2.2 : Nat) : Int) = q := ⟨_, rfl⟩
      obtain ⟨pi2, hpi2⟩ : ∃ q : Bool, (Obol.pfV s 3 2).1 = q := ⟨_, rfl⟩
      obtain ⟨px2, hpx2⟩ : ∃ q : Int, (((Obol.pfV s 3 2).2.1 : Nat) : Int) = q := ⟨_, rfl⟩
      obtain ⟨py2, hpy2⟩ : ∃ q : Int, (((Obol.pfV s 3 2).2.2 : Nat) : Int) = q := ⟨_, rfl⟩
      have hA : pfA s 3 = (#[.bool pi0, .int .u64 px0, .int .u64 py0, .bool pi1, .int .u64 px1, .int .u64 py1, .bool pi2, .int .u64 px2, .int .u64 py2] : Array Value) := by unfold pfA; rw [hpi0, hpx0, hpy0, hpi1, hpx1, hpy1, hpi2, hpx2, hpy2]
      have R3 := PW.out.r3
      rw [hA] at R3
      have hA2 := Lib.hid hA
      clear hA hpi0 hpx0 hpy0 hpi1 hpx1 hpy1 hpi2 hpx2 hpy2
      have R2 := PW.out.r2
      have k0 := R3.cell 0 rfl
      have k1 := R3.cell 1 rfl
      have k2 := R3.cell 2 rfl
      have k3 := R3.cell 3 rfl
      have k4 := R3.cell 4 rfl
      have k5 := R3.cell 5 rfl
      have k6 := R3.cell 6 rfl
      have k7 := R3.cell 7 rfl
      have k8 := R3.cell 8 rfl
      have f0 := R2.free 0
      have e0 := R2.cell 0 rfl
      have f1 := R2.free 1
      have e1 := R2.cell 1 rfl
      have f2 := R2.free 2
      have e2 := R2.cell 2 rfl
      have f3 := R2.free 3
      have e3 := R2.cell 3 rfl
      have f4 := R2.free 4
      have e4 := R2.cell 4 rfl
      have f5 := R2.free 5
      have e5 := R2.cell 5 rfl
      have f6 := R2.free 6
      have e6 := R2.cell 6 rfl
      have f7 := R2.free 7
      have e7 := R2.cell 7 rfl
      have f8 := R2.free 8
      have e8 := R2.cell 8 rfl
      have RS : Row (((((((((wr.setCell ⟨b2, 0, none⟩ (.bool pi0)).setCell ⟨b2, 1, none⟩ (.int .u64 px0)).setCell ⟨b2, 2, none⟩ (.int .u64 py0)).setCell ⟨b2, 3, none⟩ (.bool pi1)).setCell ⟨b2, 4, none⟩ (.int .u64 px1)).setCell ⟨b2, 5, none⟩ (.int .u64 py1)).setCell ⟨b2, 6, none⟩ (.bool pi2)).setCell ⟨b2, 7, none⟩ (.int .u64 px2)).setCell ⟨b2, 8, none⟩ (.int .u64 py2)) b2 (#[.bool pi0, .int .u64 px0, .int .u64 py0, .bool pi1, .int .u64 px1, .int .u64 py1, .bool pi2, .int .u64 px2, .int .u64 py2] : Array Value) 33 := (((((((((R2.set 0 _).set 1 _).set 2 _).set 3 _).set 4 _).set 5 _).set 6 _).set 7 _).set 8 _)
      have F := Lib.hid (show RdAt base br (Obol.pfN s 3) (((((((((wr.setCell ⟨b2, 0, none⟩ (.bool pi0)).setCell ⟨b2, 1, none⟩ (.int .u64 px0)).setCell ⟨b2, 2, none⟩ (.int .u64 py0)).setCell ⟨b2, 3, none⟩ (.bool pi1)).setCell ⟨b2, 4, none⟩ (.int .u64 px1)).setCell ⟨b2, 5, none⟩ (.int .u64 py1)).setCell ⟨b2, 6, none⟩ (.bool pi2)).setCell ⟨b2, 7, none⟩ (.int .u64 px2)).setCell ⟨b2, 8, none⟩ (.int .u64 py2)) ∧ Tch br w (((((((((wr.setCell ⟨b2, 0, none⟩ (.bool pi0)).setCell ⟨b2, 1, none⟩ (.int .u64 px0)).setCell ⟨b2, 2, none⟩ (.int .u64 py0)).setCell ⟨b2, 3, none⟩ (.bool pi1)).setCell ⟨b2, 4, none⟩ (.int .u64 px1)).setCell ⟨b2, 5, none⟩ (.int .u64 py1)).setCell ⟨b2, 6, none⟩ (.bool pi2)).setCell ⟨b2, 7, none⟩ (.int .u64 px2)).setCell ⟨b2, 8, none⟩ (.int .u64 py2)) from by
        obtain ⟨ra, rc, g1, g2, g3⟩ := PW.out.rd
        have hB : Below w.heap.size wr (((((((((wr.setCell ⟨b2, 0, none⟩ (.bool pi0)).setCell ⟨b2, 1, none⟩ (.int .u64 px0)).setCell ⟨b2, 2, none⟩ (.int .u64 py0)).setCell ⟨b2, 3, none⟩ (.bool pi1)).setCell ⟨b2, 4, none⟩ (.int .u64 px1)).setCell ⟨b2, 5, none⟩ (.int .u64 py1)).setCell ⟨b2, 6, none⟩ (.bool pi2)).setCell ⟨b2, 7, none⟩ (.int .u64 px2)).setCell ⟨b2, 8, none⟩ (.int .u64 py2)) := bSet (bSet (bSet (bSet (bSet (bSet (bSet (bSet (bSet (Below.refl w.heap.size wr) PW.out.lo) PW.out.lo) PW.out.lo) PW.out.lo) PW.out.lo) PW.out.lo) PW.out.lo) PW.out.lo) PW.out.lo
        have TD := PW.out.tc
        exact ⟨⟨ra, rc, (((((((((g1.other PW.out.n2.symm).other PW.out.n2.symm).other PW.out.n2.symm).other PW.out.n2.symm).other PW.out.n2.symm).other PW.out.n2.symm).other PW.out.n2.symm).other PW.out.n2.symm).other PW.out.n2.symm), g2.below (hB.mono hbase.out), g3⟩, ⟨hB.os.trans TD.os, hB.tape.trans TD.tape, hB.output.trans TD.output, Nat.le_trans TD.size hB.size, fun k hk hn => (hB.block k hk).trans (TD.block k hk hn)⟩⟩)
      have s0 := RS.cell 0 rfl
      have s1 := RS.cell 1 rfl
      have s2 := RS.cell 2 rfl
      have s3 := RS.cell 3 rfl
      have s4 := RS.cell 4 rfl
      have s5 := RS.cell 5 rfl
      have s6 := RS.cell 6 rfl
      have s7 := RS.cell 7 rfl
      have s8 := RS.cell 8 rfl
      clear R3 RS R2
      go_wp2_with fail
      refine bodyPost_ret (v := .agg (#[.bool pi0, .int .u64 px0, .int .u64 py0, .bool pi1, .int .u64 px1, .int .u64 py1, .bool pi2, .int .u64 px2, .int .u64 py2] : Array Value)) (by simp [results, Try.results42, go_sem, s0, s1, s2, s3, s4, s5, s6, s7, s8]) rfl ⟨by rw [hA2.out], F.out.1, F.out.2⟩

end Go.Proofs.Ytkfimfjjmdjbdaa
