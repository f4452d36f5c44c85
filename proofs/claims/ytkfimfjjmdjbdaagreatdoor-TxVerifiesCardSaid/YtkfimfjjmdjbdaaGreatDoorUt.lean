import Derived.Test.YtkfimfjjmdjbdaaGreatDoorUc
import Derived.Test.YtkfimfjjmdjbdaaGreatDoorUs
import Derived.Test.YtkfimfjjmdjbdaaGreatDoorUf
import Derived.Test.YtkfimfjjmdjbdaaGreatDoorUb
import Derived.Test.YtkfimfjjmdjbdaaGreatDoorUk
set_option linter.unusedVariables false
set_option linter.unusedSimpArgs false
set_option linter.unusedSectionVars false
/- Walks: package schnorr: keys, points, the question. -/
namespace Obol
def schL : List Nat := [115, 99, 104, 110, 111, 114, 114]
noncomputable def quesN (a p : Nat × Nat) (M : List Nat) : Nat := numL (sumL schL (be8 (codeN a) ++ be8 (codeN p) ++ M)) % 72057593894066549
end Obol
namespace Go.Proofs.YtkfimfjjmdjbdaaGreatDoor
open Go.RowKit

abbrev schS : ByteArray := { data := #[115, 99, 104, 110, 111, 114, 114] }
theorem sch_str : strL schS = Obol.schL := rfl
theorem of_G : Obol.Pnt.of ((223588670687113535 : Int).toNat, (82055451961885530 : Int).toNat) = Obol.G := by
  have h : ((223588670687113535 : Int).toNat, (82055451961885530 : Int).toNat) = Obol.G.n := Obol.G_n.symm
  rw [h, Obol.of_n]

theorem sPoint (k : Int) (k0 : 0 ≤ k) (k1 : k ≤ 18446744073709551615) (w : World) :
    Calls Tryz.prog 35 #[.int .u64 k] w fun e w' => e = .returned (edP (Obol.Pnt.smul k.toNat Obol.G)) ∧ Below w.heap.size w w' := by
  have hM := fun w => gMul 223588670687113535 82055451961885530 k (by omega) (by omega) k0 k1 w
  rw [of_G] at hM
  obtain ⟨x, y, -, -, -, -, hv, -⟩ := coords (Obol.Pnt.smul k.toNat Obol.G)
  rw [hv] at hM
  have HV := Lib.hid hv
  replace hM := Lib.hid hM
  clear hv
  go_enter Tryz.func35, Tryz.ntmps35
  go_wp2_with (first
    | (go_at_call 70; refine (eGen _).mono ?_; rintro e w1 ⟨rfl, hb⟩; obtain ⟨hc, hf⟩ := bcell hb; have hz := hb.size; (try simp at hz))
    | (go_at_call 32; refine (hM.out _).mono ?_; rintro e w2 ⟨rfl, hb2⟩; replace hb := bThen hb hb2 hb.size; clear hb2; obtain ⟨hc2, hf2⟩ := bcell hb; have hz2 := hb.size; (try simp at hz2)))
  refine bodyPost_ret (v := edV x y) (by simp [results, Tryz.results35, go_sem, hc2]) rfl ⟨by rw [HV.out], ?_⟩
  repeat (first | exact Below.refl _ _ | assumption | apply bDrewN | apply bDrew | apply bAlloc | refine bSet ?_ (by omega) | refine bThen ?_ (by assumption) (by simp <;> omega))
theorem sl_r5' {w : World} {ao : Option Addr} {cap : Nat} {L : List Nat} (h : SlI w.heap.size w ao cap L) {len : Nat} (hl : L.length = len) : (ao = none → len = 0 ∧ cap = 0) ∧ (0 < len → ∃ b o, ao = some ⟨b, o, none⟩ ∧ BL w b o L) := by
  subst hl
  exact ⟨h.no, fun h0 => by
    obtain ⟨b, o, h1, h2, h3⟩ := h.bl h0
    exact ⟨b, o, h1, h3⟩⟩
theorem be8_b8 (n : Nat) : B8 8 (Obol.be8 n) := ⟨rfl, (B8.of (Obol.be_lt n)).lt⟩
theorem B8.app {a b : Nat} {L M : List Nat} (h : B8 a L) (h' : B8 b M) : B8 (a + b) (L ++ M) := by
  have := B8.of (L := L ++ M) (fun x hx => by
    rcases List.mem_append.1 hx with hx | hx
    · exact h.all x hx
    · exact h'.all x hx)
  exact ⟨by rw [List.length_append, h.len, h'.len], this.lt⟩

set_option maxRecDepth 8000 in
set_option maxHeartbeats 2000000 in
theorem sQues (ao : Option Addr) (len cap : Nat) (M : List Nat) (HM0 : B8 len M) (hl : len ≤ 140737488351232) (gb : Nat) (x0 y0 x1 y1 : Int) (hx0 : 0 ≤ x0) (hy0 : 0 ≤ y0) (hx1 : 0 ≤ x1) (hy1 : 0 ≤ y1)
    (hN0 : Obol.isN (x0.toNat, y0.toNat) = true) (hN1 : Obol.isN (x1.toNat, y1.toNat) = true) (w : World) (hS0 : SlI w.heap.size w ao cap M) (hR0 : Row w gb #[.int .u64 x0, .int .u64 y0, .int .u64 x1, .int .u64 y1] 24) (hG0 : RowsAt w) :
    Calls Tryz.prog 34 #[.slice ao len cap, .slice (some ⟨gb, 0, none⟩) 2 2] w fun e w' => e = .returned (.tuple #[.int .u64 ((Obol.quesN (x0.toNat, y0.toNat) (x1.toNat, y1.toNat) M : Nat) : Int), .nilIface]) ∧ Below w.heap.size w w' := by
  have HM := Lib.hid HM0
  have hS := Lib.hid hS0
  have hR := Lib.hid hR0
  have hG := Lib.hid hG0
  have c0 := Lib.hid (fun w => eWrite x0 y0 hx0 hy0 hN0 w)
  have c1 := Lib.hid (fun w => eWrite x1 y1 hx1 hy1 hN1 w)
  obtain ⟨C, hC⟩ : ∃ C, C = Obol.be8 (Obol.codeN (x0.toNat, y0.toNat)) ++ Obol.be8 (Obol.codeN (x1.toNat, y1.toNat)) := ⟨_, rfl⟩
  have hC16 : Hid (C.length = 16) := Lib.hid (by rw [hC]; rfl)
  have hCb : Hid (B8 16 C) := Lib.hid (by rw [hC]; exact (be8_b8 _).app (be8_b8 _))
  have hC0 : Hid (C.take 0 ++ Obol.be8 (Obol.codeN (x0.toNat, y0.toNat)) = C.take 8) := Lib.hid (by rw [hC]; rfl)
  have hC1 : Hid (C.take 8 ++ Obol.be8 (Obol.codeN (x1.toNat, y1.toNat)) = C.take 16) := Lib.hid (by rw [hC]; rfl)
  replace hC := Lib.hid hC
  have hlt := hR0.lt
  clear HM0 hS0 hR0 hG0 hN0 hN1
  go_enter Tryz.func34, Tryz.ntmps34
  go_wp2_with fail
  go_loopw [6, 13] (fun q1 q2 wr => ∃ j : Nat, q2 = .int .i64 (j : Int) ∧ j ≤ 2 ∧ Hid (OwnB wr w.heap.size q1 (C.take (8 * j))) ∧ Hid (Below w.heap.size w wr)) (fun _ q2 _ => (2 - intOf q2).toNat)
  case atStart => exact ⟨0, rfl, by omega, Lib.hid (OwnB.nil _ _), Lib.hid (Below.refl _ _)⟩
  case round =>
    obtain ⟨j, rfl, hj, hO, hB⟩ := hrel
    have hsz := hB.out.size
    have hR2 := Lib.hid (hR.out.below hB.out hlt)
    obtain ⟨i, hi⟩ : ∃ i : Int, (j : Int) = i := ⟨_, rfl⟩
    rw [hi]
    by_cases hj2 : j < 2
    · rcases (by omega : j = 0 ∨ j = 1) with hj0 | hj0
      · obtain rfl : i = 0 := by omega
        subst hj0
        have a0 := hR2.out.cell 0 rfl
        have a1 := hR2.out.cell 1 rfl
        go_wp2_with fail
        refine (c0.out _).mono ?_
        rintro e w2 ⟨v2, rfl, hO2, hb2⟩
        have hl8 : (Obol.be8 (Obol.codeN (x0.toNat, y0.toNat))).length = 8 := rfl
        obtain ⟨g2, cap2, cur2, rfl, -, -, -, -, -, -⟩ := hO2.size (by rw [hl8]; decide)
        rw [hl8] at hO2 ⊢
        have hbl2 := own_blz hO2 hl8
        have hW : Below wr.heap.size wr w2 := bThen (bAlloc (Below.refl wr.heap.size wr) _) hb2 (by simp)
        have hO3 := hO.out.below hW
        obtain ⟨v', w', hr, hO', hb', -, -⟩ := append_ownB w2 w.heap.size _ _ (Obol.be8 (Obol.codeN (x0.toNat, y0.toNat))) hO3 ⟨g2, 0, none⟩ 8 cap2 hl8 (fun k hk => by rw [addB]; exact hbl2 k hk) (by rw [hl8, List.length_take, hC16.out]; omega) (by have := hW.size; omega)
        rw [hC0.out] at hO'
        have HO := Lib.hid hO'
        have HB := Lib.hid ((bThen hB.out hW hsz).trans hb')
        clear hO' hb' hO3 hW hbl2 hl8 hO2 hb2 hO hB
        go_wp2_with (at_builtin; refine wpList_appended rfl _ _ _ _ rfl _ _ _ rfl rfl hr ?_)
        go_roundw
        case rel => exact ⟨1, rfl, by omega, HO, HB⟩
        case measure => simp [intOf]
      · obtain rfl : i = 1 := by omega
        subst hj0
        have a0 := hR2.out.cell 2 rfl
        have a1 := hR2.out.cell 3 rfl
        go_wp2_with fail
        refine (c1.out _).mono ?_
        rintro e w2 ⟨v2, rfl, hO2, hb2⟩
        have hl8 : (Obol.be8 (Obol.codeN (x1.toNat, y1.toNat))).length = 8 := rfl
        obtain ⟨g2, cap2, cur2, rfl, -, -, -, -, -, -⟩ := hO2.size (by rw [hl8]; decide)
        rw [hl8] at hO2 ⊢
        have hbl2 := own_blz hO2 hl8
        have hW : Below wr.heap.size wr w2 := bThen (bAlloc (Below.refl wr.heap.size wr) _) hb2 (by simp)
        have hO3 := hO.out.below hW
        obtain ⟨v', w', hr, hO', hb', -, -⟩ := append_ownB w2 w.heap.size _ _ (Obol.be8 (Obol.codeN (x1.toNat, y1.toNat))) hO3 ⟨g2, 0, none⟩ 8 cap2 hl8 (fun k hk => by rw [addB]; exact hbl2 k hk) (by rw [hl8, List.length_take, hC16.out]; omega) (by have := hW.size; omega)
        rw [hC1.out] at hO'
        have HO := Lib.hid hO'
        have HB := Lib.hid ((bThen hB.out hW hsz).trans hb')
        clear hO' hb' hO3 hW hbl2 hl8 hO2 hb2 hO hB
        go_wp2_with (at_builtin; refine wpList_appended rfl _ _ _ _ rfl _ _ _ rfl rfl hr ?_)
        go_roundw
        case rel => exact ⟨2, rfl, by omega, HO, HB⟩
        case measure => simp [intOf]
    · obtain rfl : j = 2 := by omega
      obtain rfl : i = 2 := by omega
      have hC2 : C.take (8 * 2) = C := List.take_of_length_le (by rw [hC16.out]; decide)
      rw [hC2] at hO
      have hS2 := hS.out.at hB.out
      have hsl := sl_r5' hS2 HM.out.len
      obtain ⟨v', w', hr, hO', hb', -, hn'⟩ := append_ownS wr w.heap.size _ C M hO.out ao len cap HM.out.len hsl.1 hsl.2 (by rw [hC16.out, HM.out.len]; omega) hsz
      have hlen2 : (C ++ M).length = 16 + len := by rw [List.length_append, hC16.out, HM.out.len]
      obtain ⟨g', c', cur', rfl, -, -, -, -, -, -⟩ := hO'.size (by rw [hlen2]; omega)
      rw [hlen2] at hO' hr
      have hB' := Lib.hid (hB.out.trans hb')
      have cN := bNumber schS (by decide) (some ⟨g', 0, none⟩) (16 + len) c' (C ++ M) (hCb.out.app HM.out) 72057593894066549 (by omega) (by omega) w' (own_sl hO' hlen2) (hG.out.below hB'.out)
      have hq : Hid (((Obol.quesN (x0.toNat, y0.toNat) (x1.toNat, y1.toNat) M : Nat) : Int) = ((Obol.numL (Obol.sumL (strL schS) (C ++ M)) : Nat) : Int) % 72057593894066549) := Lib.hid (by
        unfold Obol.quesN
        rw [sch_str, ← hC.out]
        exact Int.natCast_emod _ _)
      obtain ⟨z, hz⟩ : ∃ z : Int, ((Obol.numL (Obol.sumL (strL schS) (C ++ M)) : Nat) : Int) % 72057593894066549 = z := ⟨_, rfl⟩
      rw [hz] at cN hq
      replace cN := Lib.hid cN
      clear hz hO' hb' hlen2 hsl hS2 hC2 hO
      go_wp2_with (at_builtin; refine wpList_appended rfl _ _ _ _ rfl _ _ _ rfl rfl hr ?_)
      refine cN.out.mono ?_
      rintro e w2 ⟨rfl, hb2⟩
      have hB2 := Lib.hid (bThen hB'.out hb2 hB'.out.size)
      clear hb2
      go_wp2_with fail
      go_ret2
      refine ⟨?_, hB2.out⟩
      rw [hq.out]
      rfl

end Go.Proofs.YtkfimfjjmdjbdaaGreatDoor
/- Walks: package schnorr: signatures, turned keys; the question by the document. -/
namespace Obol
noncomputable def quesP (A P : Pt) (M : List Nat) : Nat := quesN A.n P.n M
noncomputable def sigZ (n q k : Nat) : Nat := addM 72057593894066549 n (mulM 72057593894066549 q k)
end Obol
namespace Go.Proofs.YtkfimfjjmdjbdaaGreatDoor
open Go.RowKit

theorem coordsN (q : Obol.Pt) : ∃ x y : Int, 0 ≤ x ∧ 0 ≤ y ∧ x < 288230376287764481 ∧ y < 288230376287764481 ∧ edP q = edV x y ∧ (x.toNat, y.toNat) = q.n := by
  obtain ⟨x, y, h1, h2, h3, h4, h5, h6⟩ := coords q
  refine ⟨x, y, h1, h2, h3, h4, h5, ?_⟩
  simp only [Value.agg.injEq, Array.mk.injEq, List.cons.injEq, Value.int.injEq, true_and, and_true] at h5
  show _ = (q.x.val, q.y.val)
  rw [Prod.mk.injEq]
  omega
theorem litSn : (72057593894066549 : Int).toNat = 72057593894066549 := rfl
abbrev sigV (p : Obol.Pt) (z : Int) : Value := .agg #[.int .u64 ((p.x.val : Nat) : Int), .int .u64 ((p.y.val : Nat) : Int), .int .u64 z]
theorem sig_of {p : Obol.Pt} {x y : Int} (h : edP p = edV x y) (z : Int) : sigV p z = .agg #[.int .u64 x, .int .u64 y, .int .u64 z] := by
  simp only [Value.agg.injEq, Array.mk.injEq, List.cons.injEq, Value.int.injEq, true_and, and_true] at h ⊢
  exact h

end Go.Proofs.YtkfimfjjmdjbdaaGreatDoor
