import Derived.Test.YtkfimfjjmdjbdaaGreatDoorUl
import Derived.Test.YtkfimfjjmdjbdaaGreatDoorUm
import Derived.Test.YtkfimfjjmdjbdaaGreatDoorUn
set_option linter.unusedVariables false
set_option linter.unusedSimpArgs false
set_option linter.unusedSectionVars false
/- Walks: package tx: whether a transaction may be. -/
namespace Go.Proofs.YtkfimfjjmdjbdaaGreatDoor
open Go.RowKit

theorem tCheck (t : TxD) (h : TxOk t) (w : World) : Calls Tryz.prog 20 #[txV t] w (ChkSaid (mayB t) w) := by
  unfold mayB
  cases h1 : c1 t
  · exact tCheckA t h (by rw [h1]; rfl) w
  · cases h2 : c2 t
    · exact tCheckA t h (by rw [h1, h2]; rfl) w
    · rw [Bool.true_and, Bool.true_and]
      cases h3 : c3 t.n0x t.n0y t.l0
      · exact tCheckB t h h1 h2 (by show ((true && c3 t.n0x t.n0y t.l0) && _) = false; rw [h3]; rfl) w
      · cases h4 : c3 t.n1x t.n1y t.l1
        · exact tCheckB t h h1 h2 (by show ((true && c3 t.n0x t.n0y t.l0) && c3 t.n1x t.n1y t.l1) = false; rw [h3, h4]; rfl) w
        · rw [Bool.true_and, Bool.true_and]
          exact tCheckC t h h1 h2 ⟨h3, h4⟩ w

end Go.Proofs.YtkfimfjjmdjbdaaGreatDoor
/- Walks: package tx: a transaction's bytes. -/
namespace Obol
def be8s (L : List Nat) : List Nat := L.flatMap be8
theorem be8s_take {L : List Nat} {j : Nat} (h : j < L.length) : be8s (L.take (j + 1)) = be8s (L.take j) ++ be8 (L.getD j 0) := by
 unfold be8s
 rw [List.take_add_one, List.getElem?_eq_getElem h, List.flatMap_append, List.getD_eq_getElem?_getD, List.getElem?_eq_getElem h]
 simp
theorem be8s_len (L : List Nat) : (be8s L).length = 8 * L.length := by
 induction L with
 | nil => rfl
 | cons x L ih => show (be8 x ++ be8s L).length = _; rw [List.length_append, ih, List.length_cons]; show 8 + _ = _; omega
theorem be8s_take_len (L : List Nat) (j : Nat) : (be8s (L.take j)).length ≤ 8 * L.length := by rw [be8s_len, List.length_take]; omega
end Obol
namespace Go.Proofs.YtkfimfjjmdjbdaaGreatDoor
open Go.RowKit
set_option linter.unusedVariables false

abbrev edC (x y : Int) : List Nat := Obol.be8 (Obol.codeN (x.toNat, y.toNat))
/-- The bytes ahead of the Answers. -/
def hd1 (t : TxD) : List Nat := Obol.be8s [t.root.toNat, t.inn.toNat, t.out.toNat]
def hd2 (t : TxD) : List Nat := ((hd1 t ++ edC t.fx t.fy) ++ edC t.tx t.ty) ++ Obol.be8 t.seq.toNat
def hd3 (t : TxD) : List Nat := hd2 t ++ Obol.be8s [t.e0.toNat, t.e1.toNat, t.m0.toNat, t.m1.toNat]
def hd4 (t : TxD) (L0 L1 : List Nat) : Nat → List Nat
 | 0 => hd3 t
 | 1 => (hd3 t ++ edC t.n0x t.n0y) ++ L0
 | _ => (((hd3 t ++ edC t.n0x t.n0y) ++ L0) ++ edC t.n1x t.n1y) ++ L1
def bodL (t : TxD) (L0 L1 : List Nat) : List Nat := ((hd4 t L0 L1 2 ++ Obol.be8 t.a0.toNat) ++ Obol.be8 t.a1.toNat) ++ prL t.ia t.xa t.ya t.ib t.xb t.yb t.ic t.xc t.yc 3
def wriL (t : TxD) (L0 L1 : List Nat) : List Nat := (bodL t L0 L1 ++ edC t.gx t.gy) ++ Obol.be8 t.gz.toNat
theorem be8_l (n : Nat) : (Obol.be8 n).length = 8 := rfl
theorem hd1_len (t : TxD) : (hd1 t).length = 24 := by unfold hd1; rw [Obol.be8s_len]; rfl
theorem hd2_len (t : TxD) : (hd2 t).length = 48 := by unfold hd2; simp only [List.length_append, be8_l, hd1_len]
theorem hd3_len (t : TxD) : (hd3 t).length = 80 := by unfold hd3; rw [List.length_append, hd2_len, Obol.be8s_len]; rfl
theorem hd4_len (t : TxD) {L0 L1 : List Nat} (h0 : L0.length = 32) (h1 : L1.length = 32) : (hd4 t L0 L1 2).length = 160 := by unfold hd4; simp only [List.length_append, be8_l, hd3_len, h0, h1]
theorem own_cells {w : World} {base g n c : Nat} {L : List Nat} (h : OwnU w base (.slice (some ⟨g, 0, none⟩) n c) L) : ∃ cur, Row w g cur 22 ∧ ∀ i, i < L.length → cur[i]? = some (.int .u64 ((L.getD i 0 : Nat) : Int)) := by
 obtain ⟨g', cap', cur, h1, h2, h3, h4, h5, h6, h7⟩ := h.row (by simp)
 simp only [Value.slice.injEq, Option.some.injEq, Addr.mk.injEq, and_true] at h1
 obtain ⟨rfl, -⟩ := h1
 refine ⟨cur, h3, fun i hi => ?_⟩
 have h8 : (cur.toList.take L.length)[i]? = (N64 L)[i]? := by rw [h7]
 rw [List.getElem?_take_of_lt hi] at h8
 rw [← Array.getElem?_toList, h8]
 simp only [List.getElem?_map, List.getElem?_eq_getElem hi, List.getD_eq_getElem?_getD]
 rfl
theorem row_u64 {w : World} {g : Nat} {cur : Array Value} {t : TypeId} (h : Row w g cur t) (L : List Nat) (hc : ∀ i, i < L.length → cur[i]? = some (.int .u64 ((L.getD i 0 : Nat) : Int))) {i : Nat} (hi : i < L.length) : w.cell? ⟨g, i, none⟩ = some (.int .u64 ((L.getD i 0 : Nat) : Int)) := h.cell i (hc i hi)
def numsM (t : TxD) : List Nat := [t.e0.toNat, t.e1.toNat, t.m0.toNat, t.m1.toNat]
theorem numsM_lt {t : TxD} (h : TxOk t) (j : Nat) : (numsM t).getD j 0 < 18446744073709551616 := by
 have h1 := h.e01
 have h2 := h.e11
 have h3 := h.m01
 have h4 := h.m11
 unfold numsM
 match j with
 | 0 => show t.e0.toNat < _; omega
 | 1 => show t.e1.toNat < _; omega
 | 2 => show t.m0.toNat < _; omega
 | 3 => show t.m1.toNat < _; omega
 | _ + 4 => exact (by decide : 0 < 18446744073709551616)
theorem parts2_ok (t : TxD) (h : TxOk t) (W : World) (b1 : Nat) (hR : Row W b1 (txC t) 37) : ∀ j (hj : j < ([⟨b1, 8, 2, 2, [t.e0.toNat, t.e1.toNat]⟩, ⟨b1, 10, 2, 2, [t.m0.toNat, t.m1.toNat]⟩] : List Part).length), (([⟨b1, 8, 2, 2, [t.e0.toNat, t.e1.toNat]⟩, ⟨b1, 10, 2, 2, [t.m0.toNat, t.m1.toNat]⟩] : List Part)[j]).L.length = (([⟨b1, 8, 2, 2, [t.e0.toNat, t.e1.toNat]⟩, ⟨b1, 10, 2, 2, [t.m0.toNat, t.m1.toNat]⟩] : List Part)[j]).n ∧ UL W (([⟨b1, 8, 2, 2, [t.e0.toNat, t.e1.toNat]⟩, ⟨b1, 10, 2, 2, [t.m0.toNat, t.m1.toNat]⟩] : List Part)[j]).g (([⟨b1, 8, 2, 2, [t.e0.toNat, t.e1.toNat]⟩, ⟨b1, 10, 2, 2, [t.m0.toNat, t.m1.toNat]⟩] : List Part)[j]).o (([⟨b1, 8, 2, 2, [t.e0.toNat, t.e1.toNat]⟩, ⟨b1, 10, 2, 2, [t.m0.toNat, t.m1.toNat]⟩] : List Part)[j]).L ∧ (([⟨b1, 8, 2, 2, [t.e0.toNat, t.e1.toNat]⟩, ⟨b1, 10, 2, 2, [t.m0.toNat, t.m1.toNat]⟩] : List Part)[j]).g < W.heap.size := by
 intro j hj
 have two : ∀ (o : Nat) (x y : Int), 0 ≤ x → 0 ≤ y → W.cell? ⟨b1, o, none⟩ = some (.int .u64 x) → W.cell? ⟨b1, o + 1, none⟩ = some (.int .u64 y) → UL W b1 o [x.toNat, y.toNat] := fun o x y hx hy h1 h2 i hi => by
  match i, hi with
  | 0, _ =>
   show W.cell? ⟨b1, o, none⟩ = some (.int .u64 ((x.toNat : Nat) : Int))
   rw [Int.toNat_of_nonneg hx]; exact h1
  | 1, _ =>
   show W.cell? ⟨b1, o + 1, none⟩ = some (.int .u64 ((y.toNat : Nat) : Int))
   rw [Int.toNat_of_nonneg hy]; exact h2
 match j, hj with
 | 0, _ => exact ⟨rfl, two 8 t.e0 t.e1 h.e00 h.e10 (hR.cell 8 rfl) (hR.cell 9 rfl), hR.lt⟩
 | 1, _ => exact ⟨rfl, two 10 t.m0 t.m1 h.m00 h.m10 (hR.cell 10 rfl) (hR.cell 11 rfl), hR.lt⟩
/-- The bodies of the notes. -/
structure Bods (t : TxD) (L0 L1 : List Nat) (base : Nat) (w : World) : Prop where
 n0 : L0.length = t.l0
 n1 : L1.length = t.l1
 b0 : SlI base w t.s0 t.c0 L0
 b1 : SlI base w t.s1 t.c1 L1
theorem Bods.below {t : TxD} {L0 L1 : List Nat} {base : Nat} {w w' : World} (h : Bods t L0 L1 base w) (hb : Below base w w') : Bods t L0 L1 base w' := ⟨h.n0, h.n1, h.b0.below hb, h.b1.below hb⟩
theorem Bods.at {t : TxD} {L0 L1 : List Nat} {w w' : World} (h : Bods t L0 L1 w.heap.size w) (hb : Below w.heap.size w w') : Bods t L0 L1 w'.heap.size w' :=
 have up : ∀ {a c L}, SlI w.heap.size w' a c L → SlI w'.heap.size w' a c L := fun h => ⟨h.le, h.cap, h.no, fun h0 => by
  obtain ⟨b, o, h1, h2, h3⟩ := h.bl h0
  exact ⟨b, o, h1, Nat.lt_of_lt_of_le h2 hb.size, h3⟩⟩
 ⟨h.n0, h.n1, up (h.b0.below hb), up (h.b1.below hb)⟩
set_option maxRecDepth 100000 in
set_option maxHeartbeats 100000000 in
theorem tHead (t : TxD) (L0 L1 : List Nat) (h : TxOk t) (pf : Obol.isN (t.fx.toNat, t.fy.toNat) = true) (pt : Obol.isN (t.tx.toNat, t.ty.toNat) = true) (pn0 : Obol.isN (t.n0x.toNat, t.n0y.toNat) = true) (pn1 : Obol.isN (t.n1x.toNat, t.n1y.toNat) = true) (hl0 : t.l0 = 32) (hl1 : t.l1 = 32) (w : World) (hB : Bods t L0 L1 w.heap.size w) :
  Calls Tryz.prog 23 #[txV t] w fun e w' => ∃ v, e = .returned v ∧ OwnB w' w.heap.size v (hd4 t L0 L1 2) ∧ Below w.heap.size w w' := by
 have hok := Lib.hid h
 have hBo := Lib.hid hB
 have hLn : Hid (L0.length = 32 ∧ L1.length = 32) := Lib.hid ⟨hB.n0.trans hl0, hB.n1.trans hl1⟩
 have hpp := Lib.hid (And.intro pf (And.intro pt (And.intro pn0 pn1)))
 have hll := Lib.hid (And.intro hl0 hl1)
 clear h hB pf pt pn0 pn1 hl0 hl1
 go_enter Tryz.func23, Tryz.ntmps23
 go_upto_region 2 with fail
 have H0 := (HR.refl w).new (txC t) 37
 generalize w.alloc (.cells (txC t) 37) = w2 at H0 ⊢
 generalize hb1 : w.heap.size = b1 at H0 ⊢
 have hbs : Hid (w.heap.size = b1) := Lib.hid hb1
 have H1 : Hid (HR w w2 [(b1, (txC t), 37)]) := Lib.hid H0
 clear hb1 H0
 have k_root := kT b1 t H1.out 0
 have k_inn := kT b1 t H1.out 1
 have k_out := kT b1 t H1.out 2
 go_upto_region 3 with fail
 have H2n := H1.out.new #[.int .u64 t.root, .int .u64 t.inn, .int .u64 t.out] 22
 clear k_root k_inn k_out
 generalize w2.alloc (.cells #[.int .u64 t.root, .int .u64 t.inn, .int .u64 t.out] 22) = w3 at H2n ⊢
 generalize w2.heap.size = bn at H2n ⊢
 have H2 := Lib.hid H2n
 clear H2n H1
 go_loopw [3, 18] (fun q1 q2 wr => ∃ j : Nat, j ≤ 3 ∧ q2 = .int .i64 (j : Int) ∧ Hid (OwnB wr w.heap.size q1 (Obol.be8s ([t.root.toNat, t.inn.toNat, t.out.toNat].take j)) ∧ HR w wr [(bn, #[.int .u64 t.root, .int .u64 t.inn, .int .u64 t.out], 22), (b1, (txC t), 37)])) (fun _ q2 _ => (3 - intOf q2).toNat)
 case atStart => exact ⟨0, by omega, rfl, Lib.hid ⟨OwnB.nil _ _, H2.out⟩⟩
 case round =>
  clear H2
  obtain ⟨j, hj, rfl, HI⟩ := hrel
  by_cases hj3 : j < 3
  ·obtain ⟨k, hk⟩ : ∃ k : Int, k = (([t.root, t.inn, t.out] : List Int).getD j 0) := ⟨_, rfl⟩
   have k0 : 0 ≤ k := by
    rw [hk]
    match j, hj3 with
    | 0, _ => exact hok.out.root0
    | 1, _ => exact hok.out.inn0
    | 2, _ => exact hok.out.out0
   have k1 : k ≤ 18446744073709551615 := by
    rw [hk]
    match j, hj3 with
    | 0, _ => exact hok.out.root1
    | 1, _ => exact hok.out.inn1
    | 2, _ => exact hok.out.out1
   have kn : Hid (k.toNat = [t.root.toNat, t.inn.toNat, t.out.toNat].getD j 0) := Lib.hid (by
    rw [hk]
    match j, hj3 with
    | 0, _ => rfl
    | 1, _ => rfl
    | 2, _ => rfl)
   have hc : wr.cell? ⟨bn, j, none⟩ = some (.int .u64 k) := HI.out.2.cell (b := bn) (cs := #[.int .u64 t.root, .int .u64 t.inn, .int .u64 t.out]) (t := 22) (by simp) j (by
    rw [hk]
    match j, hj3 with
    | 0, _ => rfl
    | 1, _ => rfl
    | 2, _ => rfl)
   have hlen := Obol.be8s_take_len [t.root.toNat, t.inn.toNat, t.out.toNat] j
   replace hk := Lib.hid hk
   have cP := Lib.hid (txPut w.heap.size u3 _ k k0 k1 (Nat.le_trans hlen (show 24 ≤ 1000 by decide)) wr HI.out.2.2.size HI.out.1)
   have hdj : decide ((j : Int) < 3) = true := decide_eq_true (by omega)
   clear hlen
   go_wp2_with fail
   refine cP.out.mono ?_
   rintro e w4 ⟨v', rfl, hO, hb, hkp⟩
   have HN : Hid (OwnB w4 w.heap.size v' (Obol.be8s ([t.root.toNat, t.inn.toNat, t.out.toNat].take (j + 1))) ∧ HR w w4 [(bn, #[.int .u64 t.root, .int .u64 t.inn, .int .u64 t.out], 22), (b1, (txC t), 37)]) := Lib.hid (by
    rw [Obol.be8s_take (by simpa using hj3), ← kn.out]
    exact ⟨hO, HI.out.2.keep hkp hb (by simp)⟩)
   clear hO hb hkp hc
   go_wp2_with fail
   go_roundw
   case rel => exact ⟨j + 1, by omega, by go_num, HN⟩
   case measure => simp [intOf]; omega
  ·obtain rfl : j = 3 := by omega
   have H3 : Hid (HR w wr [(b1, (txC t), 37)]) := Lib.hid (HR.sub HI.out.2 (by simp))
   have O3 : Hid (OwnB wr w.heap.size u3 (hd1 t)) := Lib.hid HI.out.1
   clear HI
   go_upto_region 7 with fail
   refine wp_region_noPanic ?_
   refine wp_region_held_drew (S := fun wq => wq.cell? ⟨b1, 3, none⟩ = some (.int .u64 t.fx) ∧ wq.cell? ⟨b1, 4, none⟩ = some (.int .u64 t.fy) ∧ wq.cell? ⟨b1, 5, none⟩ = some (.int .u64 t.tx) ∧ wq.cell? ⟨b1, 6, none⟩ = some (.int .u64 t.ty) ∧ wq.cell? ⟨b1, 7, none⟩ = some (.int .u64 t.seq) ∧ HR w wq [(b1, (txC t), 37)]) (by kernel_rfl) ?_ (fun hHeld => ?_)
   ·have hq0 := HR.drew H3.out
    exact ⟨kT b1 t hq0 3, kT b1 t hq0 4, kT b1 t hq0 5, kT b1 t hq0 6, kT b1 t hq0 7, hq0⟩
   refine tk 0 hHeld ?_; refine tk 1 hHeld ?_; refine tk 2 hHeld ?_; refine tk 4 hHeld ?_; refine tk 5 hHeld ?_; refine tk 7 hHeld ?_; refine tk 8 hHeld ?_
   refine st 3 fun K hK => ?_
   go_simp
   refine (txPoint w.heap.size u3 (hd1 t) t.fx t.fy hok.out.fx0 hok.out.fy0 hpp.out.1 (by rw [hd1_len]; decide) _ (HR.far hHeld.2.2.2.2.2).2 O3.out).mono ?_
   rintro e wp1 ⟨vp1, rfl, hOp1, hbp1, hkp1⟩
   have hrp1 := HR.keep hHeld.2.2.2.2.2 hkp1 hbp1 (by simp)
   refine hK.out _ _ ?_ (fun hHeld => ?_)
   ·exact ⟨kT b1 t hrp1 3, kT b1 t hrp1 4, kT b1 t hrp1 5, kT b1 t hrp1 6, kT b1 t hrp1 7, hrp1⟩
   clear hK K
   try simp only [Act.put, List.setIfInBounds_toArray, List.set_cons_zero, List.set_cons_succ]
   refine st 6 fun K hK => ?_
   go_simp
   refine (txPoint w.heap.size vp1 _ t.tx t.ty hok.out.tx0 hok.out.ty0 hpp.out.2.1 (by simp only [List.length_append, be8_l, hd1_len]; decide) _ (HR.far hHeld.2.2.2.2.2).2 hOp1).mono ?_
   rintro e wp2 ⟨vp2, rfl, hOp2, hbp2, hkp2⟩
   have hrp2 := HR.keep hHeld.2.2.2.2.2 hkp2 hbp2 (by simp)
   refine hK.out _ _ ?_ (fun hHeld => ?_)
   ·exact ⟨kT b1 t hrp2 3, kT b1 t hrp2 4, kT b1 t hrp2 5, kT b1 t hrp2 6, kT b1 t hrp2 7, hrp2⟩
   clear hK K
   try simp only [Act.put, List.setIfInBounds_toArray, List.set_cons_zero, List.set_cons_succ]
   refine st 9 fun K hK => ?_
   go_simp
   refine (txPut w.heap.size vp2 _ t.seq hok.out.seq0 hok.out.seq1 (by simp only [List.length_append, be8_l, hd1_len]; decide) _ (HR.far hHeld.2.2.2.2.2).2 hOp2).mono ?_
   rintro e wp3 ⟨vp3, rfl, hOp3, hbp3, hkp3⟩
   have hrp3 := HR.keep hHeld.2.2.2.2.2 hkp3 hbp3 (by simp)
   refine hK.out _ _ ?_ (fun hHeld => ?_)
   ·exact ⟨kT b1 t hrp3 3, kT b1 t hrp3 4, kT b1 t hrp3 5, kT b1 t hrp3 6, kT b1 t hrp3 7, hrp3⟩
   clear hK K
   try simp only [Act.put, List.setIfInBounds_toArray, List.set_cons_zero, List.set_cons_succ]
   refine tk 10 hHeld ?_
   refine wpAnyH_done (by kernel_rfl) (NoPanic.normal ?_) _
   have H7 := Lib.hid hHeld.2.2.2.2.2
   have O7 : Hid (OwnB wp3 w.heap.size vp3 (hd2 t)) := Lib.hid hOp3
   clear hHeld hOp1 hOp2 hOp3 H3 O3 hbp1 hbp2 hbp3 hkp1 hkp2 hkp3 hrp1 hrp2 hrp3
   go_upto_region 8 with fail
   refine wp_region_noPanic ?_
   refine wp_region_held_drew (S := fun wq => HR w wq [(b1, (txC t), 37)]) (by kernel_rfl) ?_ (fun hHeld => ?_)
   ·exact HR.drew H7.out
   refine tk 0 hHeld ?_; refine tk 1 hHeld ?_; refine tk 2 hHeld ?_; refine tk 3 hHeld ?_; refine tk 7 hHeld ?_
   refine st 4 fun K hK => ?_
   go_simp
   refine hK.out _ _ ?_ (fun hHeld => ?_)
   ·exact HR.alloc hHeld _
   clear hK K
   try simp only [Act.put, List.setIfInBounds_toArray, List.set_cons_zero, List.set_cons_succ]
   have cC0 := (uConcat wp3.heap.size 2 2 [⟨b1, 8, 2, 2, [t.e0.toNat, t.e1.toNat]⟩, ⟨b1, 10, 2, 2, [t.m0.toNat, t.m1.toNat]⟩] rfl (by decide) (wp3.drew.alloc (.cells #[.slice (some ⟨b1, 8, none⟩) 2 2, .slice (some ⟨b1, 10, none⟩) 2 2] 44)) (Row.new _ _ _) (parts2_ok t hok.out _ b1 (hHeld.row (by simp))) (show 0 < 4 by decide) (show 4 ≤ 1000 by decide))
   rw [show catL [⟨b1, 8, 2, 2, [t.e0.toNat, t.e1.toNat]⟩, ⟨b1, 10, 2, 2, [t.m0.toNat, t.m1.toNat]⟩] = numsM t from rfl, show (numsM t).length = 4 from rfl] at cC0
   have cC := Lib.hid cC0
   clear cC0
   refine st 5 fun K hK => ?_
   go_simp
   refine (cC.out).mono ?_
   rintro e wc1 ⟨g, c, rfl, hOU, hbc1⟩
   have hrc1 := HR.next hHeld hbc1
   refine hK.out _ _ ?_ (fun hHeld => ?_)
   ·exact hrc1
   clear hK K
   try simp only [Act.put, List.setIfInBounds_toArray, List.set_cons_zero, List.set_cons_succ]
   refine tk 6 hHeld ?_
   refine wpAnyH_done (by kernel_rfl) (NoPanic.normal ?_) _
   obtain ⟨cur, hcur, hcc⟩ := own_cells hOU
   have O8 : Hid (OwnB wc1 w.heap.size vp3 (hd2 t ++ Obol.be8s ((numsM t).take 0))) := Lib.hid (by
    have h1 : OwnB wp3.drew w.heap.size vp3 (hd2 t) := O7.out
    have h2 := OwnB.below (World.ownsRow.alloc h1 _) hbc1
    simpa [Obol.be8s] using h2)
   have H8 : Hid (HR w wc1 [(g, cur, 22), (b1, (txC t), 37)]) := Lib.hid (HR.add hHeld hcur)
   have hcc2 := Lib.hid hcc
   clear hHeld cC H7 O7 hcur hOU hbc1 hrc1 hcc
   go_upto_region 9 with fail
   go_loopw [3, 43] (fun q1 q2 wr => ∃ j : Nat, j ≤ 4 ∧ q2 = .int .i64 (j : Int) ∧ Hid (OwnB wr w.heap.size q1 (hd2 t ++ Obol.be8s ((numsM t).take j)) ∧ HR w wr [(g, cur, 22), (b1, (txC t), 37)])) (fun _ q2 _ => (4 - intOf q2).toNat)
   case atStart => exact ⟨0, by omega, rfl, Lib.hid ⟨O8.out, H8.out⟩⟩
   case round =>
    clear O8 H8
    obtain ⟨j, hj, rfl, HI⟩ := hrel
    by_cases hj4 : j < 4
    ·have hcell := row_u64 (HI.out.2.row (b := g) (cs := cur) (t := 22) (by simp)) (numsM t) hcc2.out (i := j) hj4
     obtain ⟨k, hk⟩ : ∃ k : Int, (((numsM t).getD j 0 : Nat) : Int) = k := ⟨_, rfl⟩
     rw [hk] at hcell
     have k0 : 0 ≤ k := by omega
     have k1 : k ≤ 18446744073709551615 := by have := numsM_lt hok.out j; omega
     have kn : Hid (k.toNat = (numsM t).getD j 0) := Lib.hid (by omega)
     have hlen := Obol.be8s_take_len (numsM t) j
     replace hk := Lib.hid hk
     have cP := Lib.hid (txPut w.heap.size u3 _ k k0 k1 (by rw [List.length_append, hd2_len]; exact Nat.le_trans (Nat.add_le_add_left hlen 48) (show 48 + 32 ≤ 1000 by decide)) wr HI.out.2.2.size HI.out.1)
     have hdj : decide ((j : Int) < 4) = true := decide_eq_true (by omega)
     clear hlen
     go_wp2_with fail
     refine cP.out.mono ?_
     rintro e w4 ⟨v', rfl, hO, hb, hkp⟩
     have HN : Hid (OwnB w4 w.heap.size v' (hd2 t ++ Obol.be8s ((numsM t).take (j + 1))) ∧ HR w w4 [(g, cur, 22), (b1, (txC t), 37)]) := Lib.hid (by
      refine ⟨?_, HI.out.2.keep hkp hb (by simp)⟩
      have e := Obol.be8s_take (L := numsM t) (j := j) hj4
      rw [kn.out, List.append_assoc, ← e] at hO
      exact hO)
     clear hO hb hkp hcell
     go_wp2_with fail
     go_roundw
     case rel => exact ⟨j + 1, by omega, by go_num, HN⟩
     case measure => simp [intOf]; omega
    ·obtain rfl : j = 4 := by omega
     rw [show ((4 : Nat) : Int) = 4 from rfl]
     have H9 : Hid (HR w wr [(b1, (txC t), 37)]) := Lib.hid (HR.sub HI.out.2 (by simp))
     have O9 : Hid (OwnB wr w.heap.size u3 (hd4 t L0 L1 0)) := Lib.hid HI.out.1
     clear HI hcc2
     have k_n0x := kT b1 t H9.out 12
     have k_n0y := kT b1 t H9.out 13
     have k_S0 := kT b1 t H9.out 14
     have k_n1x := kT b1 t H9.out 15
     have k_n1y := kT b1 t H9.out 16
     have k_S1 := kT b1 t H9.out 17
     go_upto_region 14 with fail
     clear k_n0x k_n0y k_S0 k_n1x k_n1y k_S1
     go_loopw [3, 53] (fun q1 q2 wr => ∃ j : Nat, j ≤ 2 ∧ q2 = .int .i64 (j : Int) ∧ Hid (OwnB wr w.heap.size q1 (hd4 t L0 L1 j)) ∧ Hid (HR w wr [(b1, (txC t), 37)])) (fun _ q2 _ => (2 - intOf q2).toNat)
     case atStart => exact ⟨0, by omega, rfl, O9, H9⟩
     case round =>
      clear O9 H9
      obtain ⟨j, hj, rfl, O9, H9⟩ := hrel
      rcases (by omega : j = 0 ∨ j = 1 ∨ j = 2) with rfl | rfl | rfl
      ·have hix := idx_n0
       go_upto_region 16 with fail
       clear hix
       have H6 := Lib.hid (H9.out.new #[.int .u64 t.n0x, .int .u64 t.n0y, .slice t.s0 t.l0 t.c0] 28)
       have O6 := Lib.hid (World.ownsRow.alloc O9.out (.cells #[.int .u64 t.n0x, .int .u64 t.n0y, .slice t.s0 t.l0 t.c0] 28))
       generalize wr.alloc (.cells #[.int .u64 t.n0x, .int .u64 t.n0y, .slice t.s0 t.l0 t.c0] 28) = w6 at H6 O6 ⊢
       generalize wr.heap.size = b6 at H6 ⊢
       refine wp_region_noPanic ?_
       refine wp_region_held_drew (S := fun wq => wq.cell? ⟨b6, 0, none⟩ = some (.int .u64 t.n0x) ∧ wq.cell? ⟨b6, 1, none⟩ = some (.int .u64 t.n0y) ∧ wq.cell? ⟨b6, 2, none⟩ = some (.slice t.s0 t.l0 t.c0) ∧ HR w wq [(b6, #[.int .u64 t.n0x, .int .u64 t.n0y, .slice t.s0 t.l0 t.c0], 28), (b1, (txC t), 37)]) (by kernel_rfl) ?_ (fun hHeld => ?_)
       ·have hq0 := HR.drew H6.out
        exact ⟨HR.cell hq0 (b := b6) (cs := #[.int .u64 t.n0x, .int .u64 t.n0y, .slice t.s0 t.l0 t.c0]) (t := 28) (by simp) 0 rfl, HR.cell hq0 (b := b6) (cs := #[.int .u64 t.n0x, .int .u64 t.n0y, .slice t.s0 t.l0 t.c0]) (t := 28) (by simp) 1 rfl, HR.cell hq0 (b := b6) (cs := #[.int .u64 t.n0x, .int .u64 t.n0y, .slice t.s0 t.l0 t.c0]) (t := 28) (by simp) 2 rfl, hq0⟩
       refine tk 0 hHeld ?_; refine tk 1 hHeld ?_; refine tk 2 hHeld ?_; refine tk 4 hHeld ?_; refine tk 5 hHeld ?_
       refine st 3 fun K hK => ?_
       go_simp
       refine (txPoint w.heap.size u3 (hd4 t L0 L1 0) t.n0x t.n0y hok.out.n0x0 hok.out.n0y0 hpp.out.2.2.1 (by rw [show hd4 t L0 L1 0 = hd3 t from rfl, hd3_len]; decide) _ (HR.far hHeld.2.2.2).2 O6.out).mono ?_
       rintro e wp1 ⟨vp1, rfl, hOp1, hbp1, hkp1⟩
       have hrp1 := HR.keep hHeld.2.2.2 hkp1 hbp1 (by simp)
       refine hK.out _ _ ?_ (fun hHeld => ?_)
       ·exact ⟨HR.cell hrp1 (b := b6) (cs := #[.int .u64 t.n0x, .int .u64 t.n0y, .slice t.s0 t.l0 t.c0]) (t := 28) (by simp) 0 rfl, HR.cell hrp1 (b := b6) (cs := #[.int .u64 t.n0x, .int .u64 t.n0y, .slice t.s0 t.l0 t.c0]) (t := 28) (by simp) 1 rfl, HR.cell hrp1 (b := b6) (cs := #[.int .u64 t.n0x, .int .u64 t.n0y, .slice t.s0 t.l0 t.c0]) (t := 28) (by simp) 2 rfl, hrp1⟩
       clear hK K
       try simp only [Act.put, List.setIfInBounds_toArray, List.set_cons_zero, List.set_cons_succ]
       obtain ⟨va, wa, hra, hOa, hba, hga, -⟩ := append_ownS wp1 w.heap.size vp1 _ L0 hOp1 t.s0 t.l0 t.c0 hBo.out.n0 (fun h => by have := hBo.out.b0.no h; have := hBo.out.n0; omega) (fun h => by obtain ⟨b, o, e1, -, e3⟩ := (hBo.out.b0.below (HR.far hHeld.2.2.2 |>.2 |> fun _ => (hHeld.2.2.2).2)).bl (by have := hBo.out.n0; omega); exact ⟨b, o, e1, e3⟩) (by have h1 := hLn.out.1; have h2 := hLn.out.2; rw [List.length_append, be8_l, show hd4 t L0 L1 0 = hd3 t from rfl, hd3_len, h1]; decide) (HR.far hHeld.2.2.2).2
       have hrA := HR.keep hHeld.2.2.2 (KeepT.grown hOp1 hga) hba (by simp)
       refine st 6 fun K hK => ?_
       refine wp_appended _ _ _ _ rfl _ _ _ rfl rfl hra ?_
       refine hK.out _ _ ?_ (fun hHeld => ?_)
       ·exact ⟨HR.cell hrA (b := b6) (cs := #[.int .u64 t.n0x, .int .u64 t.n0y, .slice t.s0 t.l0 t.c0]) (t := 28) (by simp) 0 rfl, HR.cell hrA (b := b6) (cs := #[.int .u64 t.n0x, .int .u64 t.n0y, .slice t.s0 t.l0 t.c0]) (t := 28) (by simp) 1 rfl, HR.cell hrA (b := b6) (cs := #[.int .u64 t.n0x, .int .u64 t.n0y, .slice t.s0 t.l0 t.c0]) (t := 28) (by simp) 2 rfl, hrA⟩
       clear hK K
       try simp only [Act.put, List.setIfInBounds_toArray, List.set_cons_zero, List.set_cons_succ]
       refine tk 7 hHeld ?_
       refine wpAnyH_done (by kernel_rfl) (NoPanic.normal ?_) _
       have HN := Lib.hid (HR.sub (qs := [(b1, (txC t), 37)]) hHeld.2.2.2 (by simp))
       have ON : Hid (OwnB wa w.heap.size va (hd4 t L0 L1 1)) := Lib.hid hOa
       clear hHeld H6 O6 H9 O9 hOa hba hga hOp1 hbp1 hkp1 hrp1 hrA hra
       go_wp2_with fail
       go_roundw
       case rel => exact ⟨1, by omega, rfl, ON, HN⟩
       case measure => simp [intOf]

      ·have hix := idx_n1
       go_upto_region 16 with fail
       clear hix
       have H6 := Lib.hid (H9.out.new #[.int .u64 t.n1x, .int .u64 t.n1y, .slice t.s1 t.l1 t.c1] 28)
       have O6 := Lib.hid (World.ownsRow.alloc O9.out (.cells #[.int .u64 t.n1x, .int .u64 t.n1y, .slice t.s1 t.l1 t.c1] 28))
       generalize wr.alloc (.cells #[.int .u64 t.n1x, .int .u64 t.n1y, .slice t.s1 t.l1 t.c1] 28) = w6 at H6 O6 ⊢
       generalize wr.heap.size = b6 at H6 ⊢
       refine wp_region_noPanic ?_
       refine wp_region_held_drew (S := fun wq => wq.cell? ⟨b6, 0, none⟩ = some (.int .u64 t.n1x) ∧ wq.cell? ⟨b6, 1, none⟩ = some (.int .u64 t.n1y) ∧ wq.cell? ⟨b6, 2, none⟩ = some (.slice t.s1 t.l1 t.c1) ∧ HR w wq [(b6, #[.int .u64 t.n1x, .int .u64 t.n1y, .slice t.s1 t.l1 t.c1], 28), (b1, (txC t), 37)]) (by kernel_rfl) ?_ (fun hHeld => ?_)
       ·have hq0 := HR.drew H6.out
        exact ⟨HR.cell hq0 (b := b6) (cs := #[.int .u64 t.n1x, .int .u64 t.n1y, .slice t.s1 t.l1 t.c1]) (t := 28) (by simp) 0 rfl, HR.cell hq0 (b := b6) (cs := #[.int .u64 t.n1x, .int .u64 t.n1y, .slice t.s1 t.l1 t.c1]) (t := 28) (by simp) 1 rfl, HR.cell hq0 (b := b6) (cs := #[.int .u64 t.n1x, .int .u64 t.n1y, .slice t.s1 t.l1 t.c1]) (t := 28) (by simp) 2 rfl, hq0⟩
       refine tk 0 hHeld ?_; refine tk 1 hHeld ?_; refine tk 2 hHeld ?_; refine tk 4 hHeld ?_; refine tk 5 hHeld ?_
       refine st 3 fun K hK => ?_
       go_simp
       refine (txPoint w.heap.size u3 (hd4 t L0 L1 1) t.n1x t.n1y hok.out.n1x0 hok.out.n1y0 hpp.out.2.2.2 (by unfold hd4; simp only [List.length_append, be8_l, hd3_len, hLn.out.1]; decide) _ (HR.far hHeld.2.2.2).2 O6.out).mono ?_
       rintro e wp1 ⟨vp1, rfl, hOp1, hbp1, hkp1⟩
       have hrp1 := HR.keep hHeld.2.2.2 hkp1 hbp1 (by simp)
       refine hK.out _ _ ?_ (fun hHeld => ?_)
       ·exact ⟨HR.cell hrp1 (b := b6) (cs := #[.int .u64 t.n1x, .int .u64 t.n1y, .slice t.s1 t.l1 t.c1]) (t := 28) (by simp) 0 rfl, HR.cell hrp1 (b := b6) (cs := #[.int .u64 t.n1x, .int .u64 t.n1y, .slice t.s1 t.l1 t.c1]) (t := 28) (by simp) 1 rfl, HR.cell hrp1 (b := b6) (cs := #[.int .u64 t.n1x, .int .u64 t.n1y, .slice t.s1 t.l1 t.c1]) (t := 28) (by simp) 2 rfl, hrp1⟩
       clear hK K
       try simp only [Act.put, List.setIfInBounds_toArray, List.set_cons_zero, List.set_cons_succ]
       obtain ⟨va, wa, hra, hOa, hba, hga, -⟩ := append_ownS wp1 w.heap.size vp1 _ L1 hOp1 t.s1 t.l1 t.c1 hBo.out.n1 (fun h => by have := hBo.out.b1.no h; have := hBo.out.n1; omega) (fun h => by obtain ⟨b, o, e1, -, e3⟩ := (hBo.out.b1.below (HR.far hHeld.2.2.2 |>.2 |> fun _ => (hHeld.2.2.2).2)).bl (by have := hBo.out.n1; omega); exact ⟨b, o, e1, e3⟩) (by have h1 := hLn.out.1; have h2 := hLn.out.2; rw [List.length_append, be8_l, h2]; unfold hd4; simp only [List.length_append, be8_l, hd3_len, h1]; decide) (HR.far hHeld.2.2.2).2
       have hrA := HR.keep hHeld.2.2.2 (KeepT.grown hOp1 hga) hba (by simp)
       refine st 6 fun K hK => ?_
       refine wp_appended _ _ _ _ rfl _ _ _ rfl rfl hra ?_
       refine hK.out _ _ ?_ (fun hHeld => ?_)
       ·exact ⟨HR.cell hrA (b := b6) (cs := #[.int .u64 t.n1x, .int .u64 t.n1y, .slice t.s1 t.l1 t.c1]) (t := 28) (by simp) 0 rfl, HR.cell hrA (b := b6) (cs := #[.int .u64 t.n1x, .int .u64 t.n1y, .slice t.s1 t.l1 t.c1]) (t := 28) (by simp) 1 rfl, HR.cell hrA (b := b6) (cs := #[.int .u64 t.n1x, .int .u64 t.n1y, .slice t.s1 t.l1 t.c1]) (t := 28) (by simp) 2 rfl, hrA⟩
       clear hK K
       try simp only [Act.put, List.setIfInBounds_toArray, List.set_cons_zero, List.set_cons_succ]
       refine tk 7 hHeld ?_
       refine wpAnyH_done (by kernel_rfl) (NoPanic.normal ?_) _
       have HN := Lib.hid (HR.sub (qs := [(b1, (txC t), 37)]) hHeld.2.2.2 (by simp))
       have ON : Hid (OwnB wa w.heap.size va (hd4 t L0 L1 2)) := Lib.hid hOa
       clear hHeld H6 O6 H9 O9 hOa hba hga hOp1 hbp1 hkp1 hrp1 hrA hra
       go_wp2_with fail
       go_roundw
       case rel => exact ⟨2, by omega, rfl, ON, HN⟩
       case measure => simp [intOf]

      ·go_wp2_with fail
       go_ret
       exact ⟨_, rfl, O9.out, H9.out.2⟩

end Go.Proofs.YtkfimfjjmdjbdaaGreatDoor
/- Walks: package tx: what its account signs, its bytes. -/
namespace Go.Proofs.YtkfimfjjmdjbdaaGreatDoor
open Go.RowKit
set_option linter.unusedVariables false

theorem sizTX : (Tryz.prog.info? 37).map (·.size) = some 32 := by kernel_rfl
theorem exec_load {P : Program} {op : Oper} {a : Act} {w : World} (ty : TypeId) (x : Operand) (ho : op.op = .load ty x) (g : Nat) (hx : a.eval x = .pointer (some ⟨g, 0, none⟩)) (t : TypeId) (cs : Array Value) (fr : Nat × Nat) (d : TypeDesc)
  (hg : w.heap[g]? = some (.cells cs t fr)) (hu : P.underlying ty = some d) (hd : (match d with | .struct _ | .array _ _ => true | _ => false) = true) (hi : (P.info? ty).map (·.size) = some cs.size) :
  (execOp a.eval op).run P w = .ok (.value (.agg cs)) w := by
 unfold execOp
 simp only [ho, hx, Instr.loadAt, Instr.sureAddr, Sem.run_bind, Sem.run_pure, Result.andThen_ok, run_loadVar_row w g t ty cs fr d hg hu hd hi]
structure MayI (t : TxD) : Prop where
 pf : Obol.isN (t.fx.toNat, t.fy.toNat) = true
 pt : Obol.isN (t.tx.toNat, t.ty.toNat) = true
 pn0 : Obol.isN (t.n0x.toNat, t.n0y.toNat) = true
 pn1 : Obol.isN (t.n1x.toNat, t.n1y.toNat) = true
 pg : Obol.isN (t.gx.toNat, t.gy.toNat) = true
 l0 : t.l0 = 32
 l1 : t.l1 = 32
 pa : isPt t.ia t.xa t.ya = true
 pb : isPt t.ib t.xb t.yb = true
 pc : isPt t.ic t.xc t.yc = true
theorem in_is {p : Nat × Nat} (h : inN p = true) : Obol.isN p = true := by unfold inN at h; simp only [Bool.and_eq_true] at h; exact h.1
theorem inPt_is {i : Bool} {x y : Int} (h : inPt i x y = true) : isPt i x y = true := by unfold inPt at h; simp only [Bool.and_eq_true] at h; exact h.1
theorem MayI.of {t : TxD} (h : mayB t = true) : MayI t := by
 unfold mayB at h
 simp only [Bool.and_eq_true] at h
 obtain ⟨h1, h2, h3, h4, h5, h6⟩ := h
 have a2 := c2_parts h2
 have a3 := c3_parts h3
 have a4 := c3_parts h4
 have a5 := c4_parts h5
 exact ⟨in_is a2.1, in_is a2.2.1, in_is a3.1, in_is a4.1, in_is a5.2.2.2.1, a3.2.2, a4.2.2, inPt_is a5.1, inPt_is a5.2.1, inPt_is a5.2.2.1⟩
theorem bodL_len (t : TxD) {L0 L1 : List Nat} (h0 : L0.length = 32) (h1 : L1.length = 32) : (bodL t L0 L1).length ≤ 227 := by
 have hlen := hd4_len t h0 h1
 have hlp := prL_len t.ia t.xa t.ya t.ib t.xb t.yb t.ic t.xc t.yc 3
 unfold bodL
 simp only [List.length_append, be8_l, hlen]
 omega
def AppI (base : Nat) (L : List Nat) (w : World) (e : Ending) (w' : World) : Prop := ∃ v, e = .returned v ∧ OwnB w' base v L ∧ Below base w w' ∧ KeepT w w'
theorem tHeadA (t : TxD) (L0 L1 : List Nat) (h : TxOk t) (m : MayI t) (base : Nat) (w : World) (hB : Bods t L0 L1 w.heap.size w) (hb : base ≤ w.heap.size) :
  Calls Tryz.prog 23 #[txV t] w (AppI base (hd4 t L0 L1 2) w) :=
 (tHead t L0 L1 h m.pf m.pt m.pn0 m.pn1 m.l0 m.l1 w hB).mono fun e w' ⟨v, h1, h2, h3⟩ => ⟨v, h1, h2.base hb, h3.mono hb, KeepT.below h3⟩
set_option maxRecDepth 8000 in
theorem tBodyN (t : TxD) (h : TxOk t) (hm : mayB t = false) (w : World) : Calls Tryz.prog 31 #[txV t] w fun e w' => e = .returned (.tuple #[.slice none 0 0, errV 1]) ∧ Below w.heap.size w w' := by
 have cC := fun w => tCheck t h w
 rw [hm] at cC
 replace cC := Lib.hid cC
 clear h hm
 go_enter Tryz.func31, Tryz.ntmps31
 go_upto_region 1 with fail
 have H1 := Lib.hid ((HR.refl w).new (txC t) 37)
 generalize w.alloc (.cells (txC t) 37) = w2 at H1 ⊢
 generalize hb1 : w.heap.size = b1 at H1 ⊢
 have hbs : Hid (w.heap.size = b1) := Lib.hid hb1
 clear hb1
 have und := Tryz.underlying37
 have RT := Lib.hid (H1.out.row (b := b1) (cs := (txC t)) (t := 37) (by simp))
 go_wp2_with (refine wpList_load_row rfl _ _ rfl b1 rfl 37 (txC t) (0, 0) _ RT.out und rfl sizTX ?_)
 refine (cC.out _).mono ?_
 rintro e w1 ⟨rfl, hb⟩
 have B := Lib.hid (H1.out.next hb).2
 clear hb
 go_wp2_with fail
 go_ret2
 exact ⟨rfl, B.out⟩
set_option maxRecDepth 8000 in
theorem tWriteN (t : TxD) (h : TxOk t) (hm : mayB t = false) (w : World) : Calls Tryz.prog 17 #[txV t] w fun e w' => e = .returned (.tuple #[.slice none 0 0, errV 1]) ∧ Below w.heap.size w w' := by
 have cC := Lib.hid (fun w => tBodyN t h hm w)
 clear h hm
 go_enter Tryz.func17, Tryz.ntmps17
 go_upto_region 1 with fail
 have H1 := Lib.hid ((HR.refl w).new (txC t) 37)
 generalize w.alloc (.cells (txC t) 37) = w2 at H1 ⊢
 generalize hb1 : w.heap.size = b1 at H1 ⊢
 have hbs : Hid (w.heap.size = b1) := Lib.hid hb1
 clear hb1
 have und := Tryz.underlying37
 have RT := Lib.hid (H1.out.row (b := b1) (cs := (txC t)) (t := 37) (by simp))
 go_wp2_with (refine wpList_load_row rfl _ _ rfl b1 rfl 37 (txC t) (0, 0) _ RT.out und rfl sizTX ?_)
 refine (cC.out _).mono ?_
 rintro e w1 ⟨rfl, hb⟩
 have B := Lib.hid (H1.out.next hb).2
 clear hb
 go_wp2_with fail
 go_ret2
 exact ⟨rfl, B.out⟩
set_option maxRecDepth 100000 in
set_option maxHeartbeats 100000000 in
theorem tBody (t : TxD) (L0 L1 : List Nat) (h : TxOk t) (hm : mayB t = true) (w : World) (hB : Bods t L0 L1 w.heap.size w) :
  Calls Tryz.prog 31 #[txV t] w fun e w' => ∃ v, e = .returned (.tuple #[v, .nilIface]) ∧ OwnB w' w.heap.size v (bodL t L0 L1) ∧ Below w.heap.size w w' := by
 have hok := Lib.hid h
 have hI := Lib.hid (MayI.of hm)
 have hBo := Lib.hid hB
 have hLn : Hid (L0.length = 32 ∧ L1.length = 32) := Lib.hid ⟨hB.n0.trans (MayI.of hm).l0, hB.n1.trans (MayI.of hm).l1⟩
 have cC := fun w => tCheck t h w
 rw [hm] at cC
 replace cC := Lib.hid cC
 clear h hm hB
 go_enter Tryz.func31, Tryz.ntmps31
 go_upto_region 1 with fail
 have H1 := Lib.hid ((HR.refl w).new (txC t) 37)
 generalize w.alloc (.cells (txC t) 37) = w2 at H1 ⊢
 generalize hb1 : w.heap.size = b1 at H1 ⊢
 have hbs : Hid (w.heap.size = b1) := Lib.hid hb1
 clear hb1
 have und := Tryz.underlying37
 have RT := Lib.hid (H1.out.row (b := b1) (cs := (txC t)) (t := 37) (by simp))
 go_wp2_with (refine wpList_load_row rfl _ _ rfl b1 rfl 37 (txC t) (0, 0) _ RT.out und rfl sizTX ?_)
 refine (cC.out _).mono ?_
 rintro e w3 ⟨rfl, hb3⟩
 have H3 := Lib.hid (H1.out.next hb3)
 clear hb3 H1 cC
 go_upto_region 4 with fail
 refine wp_region_noPanic ?_
 refine wp_region_held_drew (S := fun wq => wq.cell? ⟨b1, 18, none⟩ = some (.int .u64 t.a0) ∧ wq.cell? ⟨b1, 19, none⟩ = some (.int .u64 t.a1) ∧ HR w wq [(b1, (txC t), 37)]) (by kernel_rfl) ?_ (fun hHeld => ?_)
 ·have hq0 := HR.drew H3.out
  exact ⟨kT b1 t hq0 18, kT b1 t hq0 19, hq0⟩
 refine takeH 0 (fun _ _ _ _ _ h => h) (by kernel_rfl) hHeld rfl (by kernel_rfl) (by rfl) (v := .agg (txC t)) ?_ ?_
 ·intro wz hz
  exact exec_load 37 _ rfl b1 rfl 37 (txC t) (0, 0) _ (hz.2.2.row (b := b1) (cs := (txC t)) (t := 37) (by simp)) und rfl sizTX
 try simp only [Act.put, List.setIfInBounds_toArray, List.set_cons_zero, List.set_cons_succ]
 refine tk 2 hHeld ?_; refine tk 3 hHeld ?_; refine tk 4 hHeld ?_; refine tk 6 hHeld ?_; refine tk 7 hHeld ?_; refine tk 8 hHeld ?_
 refine st 1 fun K hK => ?_
 go_simp
 refine (tHeadA t L0 L1 hok.out hI.out w.heap.size _ (hBo.out.at (hHeld.2.2).2) (HR.far hHeld.2.2).2).mono ?_
 rintro e wp1 ⟨vp1, rfl, hOp1, hbp1, hkp1⟩
 have hrp1 := HR.keep hHeld.2.2 hkp1 hbp1 (by simp)
 refine hK.out _ _ ?_ (fun hHeld => ?_)
 ·exact ⟨kT b1 t hrp1 18, kT b1 t hrp1 19, hrp1⟩
 clear hK K
 try simp only [Act.put, List.setIfInBounds_toArray, List.set_cons_zero, List.set_cons_succ]
 refine st 5 fun K hK => ?_
 go_simp
 refine (txPut w.heap.size vp1 _ t.a0 hok.out.a00 hok.out.a01 (by have := hd4_len t hLn.out.1 hLn.out.2; (try simp only [List.length_append, be8_l]); omega) _ (HR.far hHeld.2.2).2 hOp1).mono ?_
 rintro e wp2 ⟨vp2, rfl, hOp2, hbp2, hkp2⟩
 have hrp2 := HR.keep hHeld.2.2 hkp2 hbp2 (by simp)
 refine hK.out _ _ ?_ (fun hHeld => ?_)
 ·exact ⟨kT b1 t hrp2 18, kT b1 t hrp2 19, hrp2⟩
 clear hK K
 try simp only [Act.put, List.setIfInBounds_toArray, List.set_cons_zero, List.set_cons_succ]
 refine st 9 fun K hK => ?_
 go_simp
 refine (txPut w.heap.size vp2 _ t.a1 hok.out.a10 hok.out.a11 (by have := hd4_len t hLn.out.1 hLn.out.2; (try simp only [List.length_append, be8_l]); omega) _ (HR.far hHeld.2.2).2 hOp2).mono ?_
 rintro e wp3 ⟨vp3, rfl, hOp3, hbp3, hkp3⟩
 have hrp3 := HR.keep hHeld.2.2 hkp3 hbp3 (by simp)
 refine hK.out _ _ ?_ (fun hHeld => ?_)
 ·exact ⟨kT b1 t hrp3 18, kT b1 t hrp3 19, hrp3⟩
 clear hK K
 try simp only [Act.put, List.setIfInBounds_toArray, List.set_cons_zero, List.set_cons_succ]
 refine tk 10 hHeld ?_
 refine wpAnyH_done (by kernel_rfl) (NoPanic.normal ?_) _
 have H5 := Lib.hid hHeld.2.2
 have O5 : Hid (OwnB wp3 w.heap.size vp3 ((hd4 t L0 L1 2 ++ Obol.be8 t.a0.toNat) ++ Obol.be8 t.a1.toNat)) := Lib.hid hOp3
 clear hHeld hOp1 hOp2 hOp3 hbp1 hbp2 hbp3 hkp1 hkp2 hkp3 hrp1 hrp2 hrp3 H3
 have k := hok.out
 have cG := Lib.hid (fun W => gWrite t.ia t.xa t.ya t.ib t.xb t.yb t.ic t.xc t.yc k.xa0 k.ya0 k.xb0 k.yb0 k.xc0 k.yc0 k.xa1 k.ya1 k.xb1 k.yb1 k.xc1 k.yc1 hI.out.pa hI.out.pb hI.out.pc W)
 clear k
 have k_ia := kT b1 t H5.out 20
 have k_xa := kT b1 t H5.out 21
 have k_ya := kT b1 t H5.out 22
 have k_ib := kT b1 t H5.out 23
 have k_xb := kT b1 t H5.out 24
 have k_yb := kT b1 t H5.out 25
 have k_ic := kT b1 t H5.out 26
 have k_xc := kT b1 t H5.out 27
 have k_yc := kT b1 t H5.out 28
 go_wp2_with fail
 refine (cG.out _).mono ?_
 rintro e w6 ⟨v6, rfl, hO6, hb6⟩
 have O7 := O5.out.below hb6
 have B7 := bThen H5.out.2 hb6 H5.out.2.size
 have hlen := hd4_len t hLn.out.1 hLn.out.2
 have hlp := prL_len t.ia t.xa t.ya t.ib t.xb t.yb t.ic t.xc t.yc 3
 have hlp0 : 0 < (prL t.ia t.xa t.ya t.ib t.xb t.yb t.ic t.xc t.yc 3).length := by
  have := ptL_pos t.ia t.xa.toNat t.ya.toNat
  simp only [prL, List.length_append]
  omega
 obtain ⟨g, cap, cur, rfl, hge, hr, hle, hm, hsz, htk⟩ := hO6.size hlp0
 have hbl := hO6.bl
 obtain ⟨v8, w8, hap, hO8, hb8, -, -⟩ := append_ownB w6 w.heap.size vp3 _ _ O7 ⟨g, 0, none⟩ _ cap rfl (fun k hk => by rw [addB]; exact hbl k hk) (by simp only [List.length_append, be8_l, hlen]; omega) B7.size
 have O9 := Lib.hid hO8
 have B9 := Lib.hid (B7.trans hb8)
 clear hO6 hge hr hle hm hsz htk hbl hO8 hb8 hb6 O7 B7 hlen hlp hlp0
 clear k_ia k_xa k_ya k_ib k_xb k_yb k_ic k_xc k_yc
 go_wp2_with (at_builtin; refine wpList_appended rfl _ _ _ _ rfl _ _ _ rfl rfl hap ?_)
 go_ret2
 exact ⟨_, rfl, O9.out, B9.out⟩
set_option maxRecDepth 100000 in
set_option maxHeartbeats 100000000 in
theorem tWrite (t : TxD) (L0 L1 : List Nat) (h : TxOk t) (hm : mayB t = true) (w : World) (hB : Bods t L0 L1 w.heap.size w) :
  Calls Tryz.prog 17 #[txV t] w fun e w' => ∃ v, e = .returned (.tuple #[v, .nilIface]) ∧ OwnB w' w.heap.size v (wriL t L0 L1) ∧ Below w.heap.size w w' := by
 have hok := Lib.hid h
 have hI := Lib.hid (MayI.of hm)
 have hLn : Hid (L0.length = 32 ∧ L1.length = 32) := Lib.hid ⟨hB.n0.trans (MayI.of hm).l0, hB.n1.trans (MayI.of hm).l1⟩
 have cB := Lib.hid (fun W (hb : Below w.heap.size w W) => tBody t L0 L1 h hm W (hB.at hb))
 clear h hm hB
 go_enter Tryz.func17, Tryz.ntmps17
 go_upto_region 1 with fail
 have H1 := Lib.hid ((HR.refl w).new (txC t) 37)
 generalize w.alloc (.cells (txC t) 37) = w2 at H1 ⊢
 generalize hb1 : w.heap.size = b1 at H1 ⊢
 have hbs : Hid (w.heap.size = b1) := Lib.hid hb1
 clear hb1
 have und := Tryz.underlying37
 have RT := Lib.hid (H1.out.row (b := b1) (cs := (txC t)) (t := 37) (by simp))
 go_wp2_with (refine wpList_load_row rfl _ _ rfl b1 rfl 37 (txC t) (0, 0) _ RT.out und rfl sizTX ?_)
 refine (cB.out _ H1.out.2).mono ?_
 rintro e w3 ⟨v3, rfl, hO3, hb3⟩
 have H3 := Lib.hid (H1.out.next hb3)
 have O3 := Lib.hid (hO3.base H1.out.2.size)
 clear hb3 H1 cB hO3
 go_upto_region 4 with fail
 refine wp_region_noPanic ?_
 refine wp_region_held_drew (S := fun wq => wq.cell? ⟨b1, 29, none⟩ = some (.int .u64 t.gx) ∧ wq.cell? ⟨b1, 30, none⟩ = some (.int .u64 t.gy) ∧ wq.cell? ⟨b1, 31, none⟩ = some (.int .u64 t.gz) ∧ HR w wq [(b1, (txC t), 37)]) (by kernel_rfl) ?_ (fun hHeld => ?_)
 ·have hq0 := HR.drew H3.out
  exact ⟨kT b1 t hq0 29, kT b1 t hq0 30, kT b1 t hq0 31, hq0⟩
 refine tk 0 hHeld ?_; refine tk 1 hHeld ?_; refine tk 2 hHeld ?_; refine tk 3 hHeld ?_; refine tk 5 hHeld ?_; refine tk 6 hHeld ?_; refine tk 7 hHeld ?_
 refine st 4 fun K hK => ?_
 go_simp
 refine (txPoint w.heap.size v3 (bodL t L0 L1) t.gx t.gy hok.out.gx0 hok.out.gy0 hI.out.pg (by have h1 := bodL_len t hLn.out.1 hLn.out.2; (try simp only [List.length_append, be8_l]); omega) _ (HR.far hHeld.2.2.2).2 O3.out).mono ?_
 rintro e wp1 ⟨vp1, rfl, hOp1, hbp1, hkp1⟩
 have hrp1 := HR.keep hHeld.2.2.2 hkp1 hbp1 (by simp)
 refine hK.out _ _ ?_ (fun hHeld => ?_)
 ·exact ⟨kT b1 t hrp1 29, kT b1 t hrp1 30, kT b1 t hrp1 31, hrp1⟩
 clear hK K
 try simp only [Act.put, List.setIfInBounds_toArray, List.set_cons_zero, List.set_cons_succ]
 refine st 8 fun K hK => ?_
 go_simp
 refine (txPut w.heap.size vp1 _ t.gz hok.out.gz0 hok.out.gz1 (by have h1 := bodL_len t hLn.out.1 hLn.out.2; (try simp only [List.length_append, be8_l]); omega) _ (HR.far hHeld.2.2.2).2 hOp1).mono ?_
 rintro e wp2 ⟨vp2, rfl, hOp2, hbp2, hkp2⟩
 have hrp2 := HR.keep hHeld.2.2.2 hkp2 hbp2 (by simp)
 refine hK.out _ _ ?_ (fun hHeld => ?_)
 ·exact ⟨kT b1 t hrp2 29, kT b1 t hrp2 30, kT b1 t hrp2 31, hrp2⟩
 clear hK K
 try simp only [Act.put, List.setIfInBounds_toArray, List.set_cons_zero, List.set_cons_succ]
 refine tk 9 hHeld ?_; refine tk 10 hHeld ?_
 refine wpAnyH_done (by kernel_rfl) (NoPanic.normal ?_) _
 have H5 := Lib.hid hHeld.2.2.2.2
 have O5 : Hid (OwnB wp2 w.heap.size vp2 (wriL t L0 L1)) := Lib.hid hOp2
 clear hHeld hOp1 hOp2 hbp1 hbp2 hkp1 hkp2 hrp1 hrp2 H3
 go_wp2_with fail
 go_ret2
 exact ⟨_, rfl, O5.out, H5.out⟩

end Go.Proofs.YtkfimfjjmdjbdaaGreatDoor
/- Walks: package tx: the reader's steps. -/
namespace Obol
/-- A reader's state: whether something was amiss, and the bytes that are left. -/
abbrev Rs := Bool × List Nat
def tkB (k : Nat) (s : Rs) : Bool := s.1 || decide (s.2.length < k)
def tkM (k : Nat) (s : Rs) : List Nat := if tkB k s = true then List.replicate k 0 else s.2.take k
def tkS (k : Nat) (s : Rs) : Rs := if tkB k s = true then (true, s.2) else (false, s.2.drop k)
theorem gd_take (L : List Nat) (n i : Nat) : (L.take n).getD i 0 = if i < n then L.getD i 0 else 0 := by
 rw [List.getD_eq_getElem?_getD, List.getElem?_take, List.getD_eq_getElem?_getD]
 split <;> rfl
theorem gd_drop (L : List Nat) (n i : Nat) : (L.drop n).getD i 0 = L.getD (n + i) 0 := by
 rw [List.getD_eq_getElem?_getD, List.getElem?_drop, List.getD_eq_getElem?_getD]
theorem tkM_len (k : Nat) (s : Rs) : (tkM k s).length = k := by
 unfold tkM
 split
 ·exact List.length_replicate
 ·rename_i h
  unfold tkB at h
  simp only [Bool.or_eq_true, decide_eq_true_eq, not_or] at h
  rw [List.length_take]
  omega
theorem tkM_lt (k : Nat) {s : Rs} (h : ∀ i, s.2.getD i 0 < 256) (i : Nat) : (tkM k s).getD i 0 < 256 := by
 unfold tkM
 split
 ·rw [List.getD_eq_getElem?_getD, List.getElem?_replicate]
  split <;> decide
 ·rw [List.getD_eq_getElem?_getD, List.getElem?_take]
  split
  ·have := h i
   rwa [List.getD_eq_getElem?_getD] at this
  ·decide
theorem tkS_lt (k : Nat) {s : Rs} (h : ∀ i, s.2.getD i 0 < 256) (i : Nat) : (tkS k s).2.getD i 0 < 256 := by
 unfold tkS
 split
 ·exact h i
 ·show (s.2.drop k).getD i 0 < 256
  have := h (k + i)
  rw [List.getD_eq_getElem?_getD] at this ⊢
  rwa [List.getElem?_drop]
theorem tkS_len (k : Nat) (s : Rs) : (tkS k s).2.length ≤ s.2.length := by
 unfold tkS
 split
 ·exact Nat.le_refl _
 ·show (s.2.drop k).length ≤ _; rw [List.length_drop]; omega
end Obol
namespace Go.Proofs.YtkfimfjjmdjbdaaGreatDoor
open Go.RowKit
set_option linter.unusedVariables false

/-- All blocks but one stay. -/
structure Tch (br : Nat) (w w' : World) : Prop where
 os : w'.os = w.os
 tape : w'.tape = w.tape
 output : w'.output = w.output
 size : w.heap.size ≤ w'.heap.size
 block : ∀ k, k < w.heap.size → k ≠ br → w'.heap[k]? = w.heap[k]?
theorem Tch.refl (br : Nat) (w : World) : Tch br w w := ⟨rfl, rfl, rfl, Nat.le_refl _, fun _ _ _ => rfl⟩
theorem Tch.trans {br : Nat} {a b c : World} (h : Tch br a b) (g : Tch br b c) : Tch br a c :=
 ⟨g.os.trans h.os, g.tape.trans h.tape, g.output.trans h.output, Nat.le_trans h.size g.size, fun k hk hn => (g.block k (Nat.lt_of_lt_of_le hk h.size) hn).trans (h.block k hk hn)⟩
theorem Tch.below {br : Nat} {a b : World} (h : Below a.heap.size a b) : Tch br a b := ⟨h.os, h.tape, h.output, h.size, fun k hk _ => h.block k hk⟩
theorem Tch.set {br : Nat} {a : World} (o : Nat) (v : Value) : Tch br a (a.setCell ⟨br, o, none⟩ v) := by
 have hb : Below br a (a.setCell ⟨br, o, none⟩ v) := bSet (Below.refl _ _) (Nat.le_refl _)
 refine ⟨hb.os, hb.tape, hb.output, hb.size, fun k hk hn => ?_⟩
 exact heap_setCell_other a ⟨br, o, none⟩ k v hn
theorem Tch.low {br base : Nat} {w w' : World} (h : Tch br w w') (hb : base ≤ br) (hw : base ≤ w.heap.size) : Below base w w' := ⟨h.os, h.tape, h.output, h.size, fun k hk => h.block k (by omega) (by omega)⟩
theorem Tch.row {br : Nat} {w w' : World} {b : Nat} {cs : Array Value} {t : TypeId} (h : Tch br w w') (hr : Row w b cs t) (hn : b ≠ br) : Row w' b cs t := (h.block b hr.lt hn).trans hr
theorem HR.tch {br : Nat} {w w1 w2 : World} {rs : List (Nat × Array Value × TypeId)} (h : HR w w1 rs) (ht : Tch br w1 w2) (hn : ∀ r ∈ rs, r.1 ≠ br) (hb : w.heap.size ≤ br) : HR w w2 rs :=
 ⟨fun r hr => ht.row (h.1 r hr) (hn r hr), h.2.trans (ht.low hb h.2.size)⟩

/-- Where the reader stands. -/
def RdAt (base br : Nat) (s : Obol.Rs) (w : World) : Prop := ∃ a c, Row w br #[.slice a s.2.length c, .bool s.1] 78 ∧ SlI base w a c s.2 ∧ base ≤ br
theorem RdAt.next {base br : Nat} {s : Obol.Rs} {w w' : World} (h : RdAt base br s w) (hb : Below w.heap.size w w') : RdAt base br s w' := by
 obtain ⟨a, c, h1, h2, h3⟩ := h
 exact ⟨a, c, h1.below hb h1.lt, h2.below (hb.mono (Nat.le_trans h3 (Nat.le_of_lt h1.lt))), h3⟩
def GotB (br k : Nat) (M : List Nat) (w' : World) (v : Value) : Prop := ∃ b o c, v = .slice (some ⟨b, o, none⟩) k c ∧ BL w' b o M ∧ b < w'.heap.size ∧ k ≤ c ∧ c ≤ 9223372036854775807 ∧ b ≠ br
def TakeI (base br k : Nat) (s : Obol.Rs) (w : World) (e : Ending) (w' : World) : Prop := (∃ v, e = .returned v ∧ GotB br k (Obol.tkM k s) w' v) ∧ RdAt base br (Obol.tkS k s) w' ∧ Tch br w w'

theorem u8_zeros (k : Nat) : madeCells (Value.int .u8 0).cells k = u8s (List.replicate k 0) := Array.toList_inj.1 ((toList_madeCells_one (.int .u8 0) k).trans (by unfold u8s; simp))
theorem make_zeros (n : Nat) (hn : n ≤ 1000000) (W : World) : (Instr.makeSlice 26 (.int .i64 (n : Int)) (.int .i64 (n : Int))).run Tryz.prog W = .ok (.slice (some ⟨W.heap.size, 0, none⟩) n n) (W.alloc (.cells (u8s (List.replicate n 0)) 5)) := by
 obtain ⟨ti, hti, htz, hts, htb⟩ := info_parts info8
 have h := run_make (P := Tryz.prog) W 26 5 ti (.int .u8 0) Tryz.underlying26 hti htz .i64 .i64 (n : Int) (n : Int) (by omega) (by omega) (by rw [htb]; omega) (by omega)
 rw [hts] at h
 rw [h, ← u8_zeros]
 simp

set_option maxRecDepth 8000 in
set_option maxHeartbeats 2000000 in
theorem rTake (base br k : Nat) (s : Obol.Rs) (hk0 : 0 < k) (hk1 : k ≤ 100) (w : World) (hR : RdAt base br s w) :
  Calls Tryz.prog 44 #[.pointer (some ⟨br, 0, none⟩), .int .i64 (k : Int)] w (TakeI base br k s w) := by
 obtain ⟨a, c, hr, hs, hbr⟩ := hR
 have R := Lib.hid hr
 have S := Lib.hid hs
 have hlt := hr.lt
 have c0 := hr.cell 0 rfl
 have c1 := hr.cell 1 rfl
 have f0 := hr.free 0
 have f1 := hr.free 1
 obtain ⟨bad, L⟩ := s
 have hlen : L.length ≤ c := hs.le
 have hcap := hs.cap
 have hni : (L.length : Int) ≤ 9223372036854775807 := by omega
 have hkp : 0 ≤ (k : Int) := by omega
 cases hT : Obol.tkB k (bad, L)
 ·-- bytes are there
  have hT2 := hT
  unfold Obol.tkB at hT2
  simp only [Bool.or_eq_false_iff, decide_eq_false_iff_not] at hT2
  obtain ⟨rfl, hn⟩ := hT2
  have hM : Hid (Obol.tkM k (false, L) = L.take k) := Lib.hid (by unfold Obol.tkM; rw [hT]; rfl)
  have hS : Hid (Obol.tkS k (false, L) = (false, L.drop k)) := Lib.hid (by unfold Obol.tkS; rw [hT]; rfl)
  have hd : decide (L.length < k) = false := decide_eq_false hn
  have hkl : k ≤ L.length := by omega
  obtain ⟨b, o, rfl, hb, hBL⟩ := hs.bl (show 0 < L.length by omega)
  have hsl := fun W => slice_rest (P := Tryz.prog) 26 5 Tryz.underlying26 info8 b o L.length c k hkl hlen W
  have hkc : (k : Int) ≤ (c : Int) := by omega
  have hkc2 : k ≤ c := by omega
  have BB := Lib.hid (And.intro hb hBL)
  clear hT hn hr hs hb hBL
  by_cases hck : c = k
  ·rw [if_pos hck] at hsl
   have hck' := Lib.hid hck
   clear hck
   go_enter Tryz.func44, Tryz.ntmps44
   go_wp2_with fail
   go_ret
   have RN : Row (w.setCell ⟨br, 0, none⟩ (.slice (some ⟨b, o, none⟩) (L.length - k) (c - k))) br #[.slice (some ⟨b, o, none⟩) (L.length - k) (c - k), .bool false] 78 := R.out.set 0 _
   have hB2 : Below base w (w.setCell ⟨br, 0, none⟩ (.slice (some ⟨b, o, none⟩) (L.length - k) (c - k))) := bSet (Below.refl _ _) hbr
   refine ⟨⟨_, rfl, b, o, c, rfl, ?_, ?_, hkc2, hcap, ?_⟩, ?_, Tch.set _ _⟩
   ·rw [hM.out]
    exact (show BL w b o (L.take k) from fun i hi => by
     rw [List.length_take] at hi
     rw [BB.out.2 i (by omega), Obol.gd_take, if_pos (by omega)]).below hB2 BB.out.1
   ·exact Nat.lt_of_lt_of_le (Nat.lt_of_lt_of_le BB.out.1 hbr) (Nat.le_trans (Nat.le_of_lt hlt) hB2.size)
   ·have := BB.out.1; omega
   ·rw [hS.out]
    refine ⟨some ⟨b, o, none⟩, c - k, ?_, ?_, hbr⟩
    ·show Row _ br #[.slice (some ⟨b, o, none⟩) (L.drop k).length (c - k), .bool false] _
     rw [List.length_drop]
     exact RN
    ·have h0 : L.length - k = 0 := by have := hck'.out; omega
     exact ⟨by show (L.drop k).length ≤ _; rw [List.length_drop]; omega, by omega, (fun h => by cases h), fun h => by have h : 0 < (L.drop k).length := h; rw [List.length_drop] at h; omega⟩
  ·rw [if_neg hck] at hsl
   go_enter Tryz.func44, Tryz.ntmps44
   go_wp2_with fail
   go_ret
   have RN : Row (w.setCell ⟨br, 0, none⟩ (.slice (some ⟨b, o + k, none⟩) (L.length - k) (c - k))) br #[.slice (some ⟨b, o + k, none⟩) (L.length - k) (c - k), .bool false] 78 := R.out.set 0 _
   have hB2 : Below base w (w.setCell ⟨br, 0, none⟩ (.slice (some ⟨b, o + k, none⟩) (L.length - k) (c - k))) := bSet (Below.refl _ _) hbr
   refine ⟨⟨_, rfl, b, o, c, rfl, ?_, ?_, hkc2, hcap, ?_⟩, ?_, Tch.set _ _⟩
   ·rw [hM.out]
    exact (show BL w b o (L.take k) from fun i hi => by
     rw [List.length_take] at hi
     rw [BB.out.2 i (by omega), Obol.gd_take, if_pos (by omega)]).below hB2 BB.out.1
   ·exact Nat.lt_of_lt_of_le (Nat.lt_of_lt_of_le BB.out.1 hbr) (Nat.le_trans (Nat.le_of_lt hlt) hB2.size)
   ·have := BB.out.1; omega
   ·rw [hS.out]
    refine ⟨some ⟨b, o + k, none⟩, c - k, ?_, ?_, hbr⟩
    ·show Row _ br #[.slice (some ⟨b, o + k, none⟩) (L.drop k).length (c - k), .bool false] _
     rw [List.length_drop]
     exact RN
    ·refine ⟨by show (L.drop k).length ≤ _; rw [List.length_drop]; omega, by omega, fun h => (by cases h), fun h => ⟨b, o + k, rfl, BB.out.1, ?_⟩⟩
     refine (show BL w b (o + k) (L.drop k) from fun i hi => ?_).below hB2 BB.out.1
     rw [List.length_drop] at hi
     rw [Nat.add_assoc, BB.out.2 (k + i) (by omega), Obol.gd_drop]
 ·-- they are too few
  have hM : Hid (Obol.tkM k (bad, L) = List.replicate k 0) := Lib.hid (by unfold Obol.tkM; rw [hT]; rfl)
  have hS : Hid (Obol.tkS k (bad, L) = (true, L)) := Lib.hid (by unfold Obol.tkS; rw [hT]; rfl)
  have mk := make_zeros k (by omega)
  have key : Hid (∀ bd : Bool, Row (w.setCell ⟨br, 1, none⟩ (.bool true)) br #[.slice a L.length c, .bool true] 78) := Lib.hid (fun _ => R.out.set 1 _)
  have fin : Hid (TakeI base br k (bad, L) w (.returned (.slice (some ⟨w.heap.size, 0, none⟩) k k)) ((w.setCell ⟨br, 1, none⟩ (.bool true)).alloc (.cells (u8s (List.replicate k 0)) 5))) := Lib.hid (by
   have hz : (w.setCell ⟨br, 1, none⟩ (.bool true)).heap.size = w.heap.size := by simp
   have hB2 : Below base w ((w.setCell ⟨br, 1, none⟩ (.bool true)).alloc (.cells (u8s (List.replicate k 0)) 5)) := (bSet (Below.refl _ _) hbr).alloc (by rw [hz]; omega) _
   have hnew : Row ((w.setCell ⟨br, 1, none⟩ (.bool true)).alloc (.cells (u8s (List.replicate k 0)) 5)) w.heap.size (u8s (List.replicate k 0)) 5 := Row.newAt _ _ hz
   refine ⟨⟨_, rfl, w.heap.size, 0, k, rfl, ?_, hnew.lt, Nat.le_refl _, by omega, by omega⟩, ?_, ?_⟩
   ·rw [hM.out]; exact hnew.bl
   ·rw [hS.out]
    exact ⟨a, c, (key.out true).alloc _, S.out.below hB2, hbr⟩
   ·exact (Tch.set 1 _).trans (Tch.below (bAlloc (Below.refl _ _) _)))
  have hz : (w.setCell ⟨br, 1, none⟩ (.bool true)).heap.size = w.heap.size := by simp
  cases bad
  ·have hd : decide (L.length < k) = true := by
    unfold Obol.tkB at hT
    simpa using hT
   clear hT hr hs key
   go_enter Tryz.func44, Tryz.ntmps44
   go_wp2_with fail
   go_ret
   exact fin.out
  ·clear hT hr hs key
   go_enter Tryz.func44, Tryz.ntmps44
   go_wp2_with fail
   go_ret
   exact fin.out

end Go.Proofs.YtkfimfjjmdjbdaaGreatDoor
/- Walks: package tx: the reader's numbers and points. -/
namespace Obol
noncomputable def rdN (s : Rs) : Nat := num8 (tkM 8 s)
noncomputable def ptP (s : Rs) : Nat × Nat := match readN (rdN s) with | .some p => p | .none => (0, 0)
noncomputable def ptS (s : Rs) : Rs := match readN (rdN s) with | .some _ => tkS 8 s | .none => (true, (tkS 8 s).2)
theorem ptS_lt {s : Rs} (h : ∀ i, s.2.getD i 0 < 256) (i : Nat) : (ptS s).2.getD i 0 < 256 := by
  unfold ptS
  split
  · exact tkS_lt 8 h i
  · exact tkS_lt 8 h i
end Obol
namespace Go.Proofs.YtkfimfjjmdjbdaaGreatDoor
open Go.RowKit
set_option linter.unusedVariables false

theorem tkM_b8 (k : Nat) {s : Obol.Rs} (h : ∀ i, s.2.getD i 0 < 256) : B8 k (Obol.tkM k s) := ⟨Obol.tkM_len k s, Obol.tkM_lt k h⟩
def NumI (base br : Nat) (s : Obol.Rs) (w : World) (e : Ending) (w' : World) : Prop := e = .returned (.int .u64 ((Obol.rdN s : Nat) : Int)) ∧ RdAt base br (Obol.tkS 8 s) w' ∧ Tch br w w'
set_option maxRecDepth 8000 in
set_option maxHeartbeats 1000000 in
theorem rNumber (base br : Nat) (s : Obol.Rs) (hb : ∀ i, s.2.getD i 0 < 256) (w : World) (hR : RdAt base br s w) :
    Calls Tryz.prog 41 #[.pointer (some ⟨br, 0, none⟩)] w (NumI base br s w) := by
  have cT := Lib.hid (rTake base br 8 s (by decide) (by decide) w hR)
  have H := Lib.hid (tkM_b8 8 hb)
  clear hR hb
  go_enter Tryz.func41, Tryz.ntmps41
  go_wp2_with fail
  refine cT.out.mono ?_
  rintro e w1 ⟨⟨v, rfl, b, o, c, rfl, hBL, hbl, hkc, hcm, hne⟩, hRd, hTc⟩
  have C := Lib.hid hBL
  have F := Lib.hid (And.intro hRd hTc)
  have hN : Obol.rdN s = Obol.num8 (Obol.tkM 8 s) := rfl
  obtain ⟨L, hL⟩ : ∃ L, Obol.tkM 8 s = L := ⟨_, rfl⟩
  rw [hL] at C H hN
  replace hN := Lib.hid hN
  replace hL := Lib.hid hL
  clear hBL hRd hTc
  go_wp2_with fail
  go_loopw [3, 9] (fun q1 q2 wr => ∃ N i : Int, q1 = .int .u64 N ∧ q2 = .int .i64 i ∧ Hid (ReadI L N i) ∧ wr = w1) (fun _ q2 _ => (8 - intOf q2).toNat)
  case atStart => exact ⟨0, 0, rfl, rfl, Lib.hid ⟨by omega, by omega, by omega, by decide, rfl⟩, rfl⟩
  case round =>
    obtain ⟨N, i, rfl, rfl, HI, rfl⟩ := hrel
    have i0 := HI.out.2.1
    have i1 := HI.out.2.2.1
    by_cases hi : i < 8
    · obtain ⟨n0, n1⟩ := HI.out.bound hi
      obtain ⟨v, hv, he, v0, v1⟩ := C.out.at H.out i0 hi
      have hor := or_byte n0 n1 v0 v1
      have HN := Lib.hid (HI.out.step H.out hi he v0 v1)
      have hdi : decide (i < 8) = true := decide_eq_true hi
      clear he
      go_wp2_with fail
      go_roundw
      case rel => exact ⟨_, _, rfl, rfl, HN, by first | rfl | trivial⟩
      case measure => simp [intOf]; omega
    · obtain rfl : i = 8 := by omega
      have hD := Lib.hid (HI.out.done H.out)
      clear HI
      go_wp2_with fail
      go_ret
      exact ⟨ret_u64 (by rw [hN.out]; exact hD.out), F.out.1, F.out.2⟩

def PtI (base br : Nat) (s : Obol.Rs) (w : World) (e : Ending) (w' : World) : Prop := e = .returned (.agg #[.int .u64 (((Obol.ptP s).1 : Nat) : Int), .int .u64 (((Obol.ptP s).2 : Nat) : Int)]) ∧ RdAt base br (Obol.ptS s) w' ∧ Tch br w w'
set_option maxRecDepth 8000 in
set_option maxHeartbeats 2000000 in
theorem rPoint (base br : Nat) (s : Obol.Rs) (hb : ∀ i, s.2.getD i 0 < 256) (w : World) (hR : RdAt base br s w) :
    Calls Tryz.prog 42 #[.pointer (some ⟨br, 0, none⟩)] w (PtI base br s w) := by
  have hlt : br < w.heap.size := by obtain ⟨a, c, h1, h2, h3⟩ := hR; exact h1.lt
  have hR1 := hR.next (bAlloc (Below.refl _ w) (.cells #[.int .u64 0, .int .u64 0] 24))
  have cT := Lib.hid (rTake base br 8 s (by decide) (by decide) _ hR1)
  have H := Lib.hid (tkM_b8 8 hb)
  have R2 := Row.new w #[.int .u64 0, .int .u64 0] 24
  have T0 : Tch br w (w.alloc (.cells #[.int .u64 0, .int .u64 0] 24)) := Tch.below (bAlloc (Below.refl _ _) _)
  have hne2 : w.heap.size ≠ br := by omega
  clear hR hb hR1
  go_enter Tryz.func42, Tryz.ntmps42
  go_wp2_with fail
  refine cT.out.mono ?_
  rintro e w1 ⟨⟨v, rfl, b, o, c, rfl, hBL, hbl, hkc, hcm, hne⟩, hRd, hTc⟩
  have cE := Lib.hid (eRead8 b o c (Obol.tkM 8 s) H.out w1 hBL)
  have R3 := hTc.row R2 hne2
  have T1 := T0.trans hTc
  clear hBL hbl hTc R2 T0 cT
  cases hr : Obol.readN (Obol.rdN s) with
  | some p =>
    have hP : Hid (Obol.ptP s = p) := Lib.hid (by unfold Obol.ptP; rw [hr])
    have hS : Hid (Obol.ptS s = Obol.tkS 8 s) := Lib.hid (by unfold Obol.ptS; rw [hr])
    have hV : readV (Obol.num8 (Obol.tkM 8 s)) = .tuple #[edV (p.1 : Nat) (p.2 : Nat), .nilIface] := by unfold readV; rw [show Obol.readN (Obol.num8 (Obol.tkM 8 s)) = Option.some p from hr]
    rw [hV] at cE
    obtain ⟨x, hx⟩ : ∃ x : Int, ((p.1 : Nat) : Int) = x := ⟨_, rfl⟩
    obtain ⟨y, hy⟩ : ∃ y : Int, ((p.2 : Nat) : Int) = y := ⟨_, rfl⟩
    rw [hx, hy] at cE
    replace hx := Lib.hid hx
    replace hy := Lib.hid hy
    clear hr hV
    go_wp2_with fail
    refine cE.out.mono ?_
    rintro e w2 ⟨rfl, hb2⟩
    go_upto_region 2 with fail
    have R4 := (R3.below hb2 R3.lt).alloc (.cells #[.int .u64 x, .int .u64 y] 24)
    have R4' := Row.new w2 #[.int .u64 x, .int .u64 y] 24
    have hRd3 := (hRd.next hb2).next (bAlloc (Below.refl _ w2) (.cells #[.int .u64 x, .int .u64 y] 24))
    have T3 := (T1.trans (Tch.below hb2)).trans (Tch.below (bAlloc (Below.refl _ w2) (.cells #[.int .u64 x, .int .u64 y] 24)))
    have hne3 : w2.heap.size ≠ br := by
      obtain ⟨ra, rc, g1, -, -⟩ := hRd
      have := (g1.below hb2 g1.lt).lt
      omega
    have hne4 : w.heap.size ≠ w2.heap.size := Nat.ne_of_lt (R3.below hb2 R3.lt).lt
    clear hb2 R3 hRd T1
    generalize w2.alloc (.cells #[.int .u64 x, .int .u64 y] 24) = w3 at R4 R4' hRd3 T3 ⊢
    generalize w2.heap.size = b3 at R4' hne3 hne4 ⊢
    go_upto_region 4 with fail
    have hRd4 : RdAt base br (Obol.ptS s) w3 := by rw [hS.out]; exact hRd3
    have R5 := R4
    have R5' := R4'
    have T4 := T3
    clear R4 R4' T3 hRd3
    generalize w3 = w4 at hRd4 R5 R5' T4 ⊢
    have k0 := R5'.cell 0 rfl
    have k1 := R5'.cell 1 rfl
    have j0 := R5.free 0
    have j1 := R5.free 1
    have j2 := R5.cell 0 rfl
    have j3 := R5.cell 1 rfl
    have F := Lib.hid (show RdAt base br (Obol.ptS s) ((w4.setCell ⟨w.heap.size, 0, none⟩ (.int .u64 x)).setCell ⟨w.heap.size, 1, none⟩ (.int .u64 y)) ∧ Tch br w ((w4.setCell ⟨w.heap.size, 0, none⟩ (.int .u64 x)).setCell ⟨w.heap.size, 1, none⟩ (.int .u64 y)) from by
      obtain ⟨a, c, g1, g2, g3⟩ := hRd4
      have hbase : base ≤ w.heap.size := by omega
      have hB : Below w.heap.size w4 ((w4.setCell ⟨w.heap.size, 0, none⟩ (.int .u64 x)).setCell ⟨w.heap.size, 1, none⟩ (.int .u64 y)) := bSet (bSet (Below.refl _ _) (Nat.le_refl _)) (Nat.le_refl _)
      refine ⟨⟨a, c, (g1.other hne2.symm).other hne2.symm, g2.below (hB.mono hbase), g3⟩, ?_⟩
      exact ⟨hB.os.trans T4.os, hB.tape.trans T4.tape, hB.output.trans T4.output, Nat.le_trans T4.size hB.size, fun k hk hn => (hB.block k hk).trans (T4.block k hk hn)⟩)
    have RS := R5.set2 (v0 := .int .u64 x) (v1 := .int .u64 y)
    have s0 := RS.cell 0 rfl
    have s1 := RS.cell 1 rfl
    clear RS R5 R5' T4 hRd4
    go_wp2_with fail
    refine bodyPost_ret (v := edV x y) (by simp [results, Tryz.results42, go_sem, s0, s1]) rfl ⟨by rw [hP.out, hx.out, hy.out], F.out.1, F.out.2⟩
  | none =>
    have hP : Hid (Obol.ptP s = (0, 0)) := Lib.hid (by unfold Obol.ptP; rw [hr])
    have hS : Hid (Obol.ptS s = (true, (Obol.tkS 8 s).2)) := Lib.hid (by unfold Obol.ptS; rw [hr])
    have hV : readV (Obol.num8 (Obol.tkM 8 s)) = .tuple #[edV 0 0, errV 3] := by unfold readV; rw [show Obol.readN (Obol.num8 (Obol.tkM 8 s)) = Option.none from hr]
    rw [hV] at cE
    clear hr hV
    go_wp2_with fail
    refine cE.out.mono ?_
    rintro e w2 ⟨rfl, hb2⟩
    go_upto_region 2 with fail
    have R4 := (R3.below hb2 R3.lt).alloc (.cells #[.int .u64 0, .int .u64 0] 24)
    have R4' := Row.new w2 #[.int .u64 0, .int .u64 0] 24
    have hRd3 := (hRd.next hb2).next (bAlloc (Below.refl _ w2) (.cells #[.int .u64 0, .int .u64 0] 24))
    have T3 := (T1.trans (Tch.below hb2)).trans (Tch.below (bAlloc (Below.refl _ w2) (.cells #[.int .u64 0, .int .u64 0] 24)))
    have hne3 : w2.heap.size ≠ br := by
      obtain ⟨ra, rc, g1, -, -⟩ := hRd
      have := (g1.below hb2 g1.lt).lt
      omega
    have hne4 : w.heap.size ≠ w2.heap.size := Nat.ne_of_lt (R3.below hb2 R3.lt).lt
    clear hb2 R3 hRd T1
    generalize w2.alloc (.cells #[.int .u64 0, .int .u64 0] 24) = w3 at R4 R4' hRd3 T3 ⊢
    generalize w2.heap.size = b3 at R4' hne3 hne4 ⊢
    obtain ⟨ra, rc, g1, g2, g3⟩ := hRd3
    have q1 := g1.cell 1 rfl
    have qf := g1.free 1
    go_upto_region 4 with fail
    have hRd4 : RdAt base br (Obol.ptS s) (w3.setCell ⟨br, 1, none⟩ (.bool true)) := by
      rw [hS.out]
      have hB : Below base w3 (w3.setCell ⟨br, 1, none⟩ (.bool true)) := bSet (Below.refl _ _) g3
      exact ⟨ra, rc, g1.set 1 _, g2.below hB, g3⟩
    have R5 := R4.other (v := .bool true) (c := br) (o := 1) hne2
    have R5' := R4'.other (v := .bool true) (c := br) (o := 1) hne3
    have T4 := T3.trans (Tch.set 1 (.bool true))
    clear g1 g2 q1 qf R4 R4' T3
    generalize w3.setCell ⟨br, 1, none⟩ (.bool true) = w4 at hRd4 R5 R5' T4 ⊢
    have k0 := R5'.cell 0 rfl
    have k1 := R5'.cell 1 rfl
    have j0 := R5.free 0
    have j1 := R5.free 1
    have j2 := R5.cell 0 rfl
    have j3 := R5.cell 1 rfl
    have F := Lib.hid (show RdAt base br (Obol.ptS s) ((w4.setCell ⟨w.heap.size, 0, none⟩ (.int .u64 0)).setCell ⟨w.heap.size, 1, none⟩ (.int .u64 0)) ∧ Tch br w ((w4.setCell ⟨w.heap.size, 0, none⟩ (.int .u64 0)).setCell ⟨w.heap.size, 1, none⟩ (.int .u64 0)) from by
      obtain ⟨a, c, g1, g2, g3⟩ := hRd4
      have hbase : base ≤ w.heap.size := by omega
      have hB : Below w.heap.size w4 ((w4.setCell ⟨w.heap.size, 0, none⟩ (.int .u64 0)).setCell ⟨w.heap.size, 1, none⟩ (.int .u64 0)) := bSet (bSet (Below.refl _ _) (Nat.le_refl _)) (Nat.le_refl _)
      refine ⟨⟨a, c, (g1.other hne2.symm).other hne2.symm, g2.below (hB.mono hbase), g3⟩, ?_⟩
      exact ⟨hB.os.trans T4.os, hB.tape.trans T4.tape, hB.output.trans T4.output, Nat.le_trans T4.size hB.size, fun k hk hn => (hB.block k hk).trans (T4.block k hk hn)⟩)
    have RS := R5.set2 (v0 := .int .u64 0) (v1 := .int .u64 0)
    have s0 := RS.cell 0 rfl
    have s1 := RS.cell 1 rfl
    clear RS R5 R5' T4 hRd4
    go_wp2_with fail
    refine bodyPost_ret (v := edV 0 0) (by simp [results, Tryz.results42, go_sem, s0, s1]) rfl ⟨by rw [hP.out]; rfl, F.out.1, F.out.2⟩

end Go.Proofs.YtkfimfjjmdjbdaaGreatDoor
/- Walks: package curve: bytes to points. -/
namespace Obol
/-- The point of some bytes. -/
noncomputable def crd (M : List Nat) : Option (Bool × Nat × Nat) :=
 if M.length = 1 ∧ M.getD 0 0 = 0 then Option.some (true, 0, 0)
 else if M.length = 17 ∧ M.getD 0 0 = 1 then (if isC (num8 ((M.drop 1).take 8)) (num8 (M.drop 9)) = true then Option.some (false, num8 ((M.drop 1).take 8), num8 (M.drop 9)) else Option.none)
 else Option.none
end Obol
namespace Go.Proofs.YtkfimfjjmdjbdaaGreatDoor
open Go.RowKit
set_option linter.unusedVariables false

noncomputable def crdV (M : List Nat) : Value := match Obol.crd M with
 | .some p => .tuple #[ptV p.1 (p.2.1 : Nat) (p.2.2 : Nat), .nilIface]
 | .none => .tuple #[ptV false 0 0, errV 3]
def CrI (A B : List Nat) (m n i : Int) : Prop := 0 ≤ i ∧ i ≤ 16 ∧ 0 ≤ m ∧ 0 ≤ n ∧ (i ≤ 8 → ReadI A m i ∧ n = 0) ∧ (8 ≤ i → m = ((Obol.num8 A : Nat) : Int) ∧ ReadI B n (i - 8))
section
variable (b o c : Nat) (M : List Nat) (w : World) (hc : M.length ≤ c) (hc2 : c ≤ 9223372036854775807) (hBL : BL w b o M)
include hc hc2 hBL
theorem cReadI (hn : M.length = 1) (h0 : M.getD 0 0 = 0) : Calls Tryz.prog 73 #[.slice (some ⟨b, o, none⟩) 1 c] w fun e w' => e = .returned (crdV M) ∧ Below w.heap.size w w' := by
 have hV : Hid (crdV M = .tuple #[ptV true 0 0, .nilIface]) := Lib.hid (by unfold crdV Obol.crd; rw [if_pos ⟨hn, h0⟩]; rfl)
 have h1 := hBL 0 (by omega)
 rw [Nat.add_zero] at h1
 rw [h0] at h1
 have hlt := hBL.lt (by omega)
 have R := Row.new w #[.bool false, .int .u64 0, .int .u64 0] 31
 clear hBL hn h0
 go_enter Tryz.func73, Tryz.ntmps73
 go_wp2_with fail
 refine (cInf _).mono ?_
 rintro e w1 ⟨rfl, hb⟩
 have R1 := R.below hb R.lt
 have k0 := R1.free 0
 have k1 := R1.free 1
 have k2 := R1.free 2
 have k3 := R1.cell 0 rfl
 have k4 := R1.cell 1 rfl
 have k5 := R1.cell 2 rfl
 have RS := R1.set3 (v0 := .bool true) (v1 := .int .u64 0) (v2 := .int .u64 0)
 have s0 := RS.cell 0 rfl
 have s1 := RS.cell 1 rfl
 have s2 := RS.cell 2 rfl
 have B := Lib.hid (bSet (bSet (bSet (bThen (bAlloc (Below.refl w.heap.size w) _) hb (by simp)) (b := w.heap.size) (o := 0) (u := .bool true) (by omega)) (b := w.heap.size) (o := 1) (u := .int .u64 0) (by omega)) (b := w.heap.size) (o := 2) (u := .int .u64 0) (by omega))
 clear R R1 RS hb
 go_wp2_with fail
 refine bodyPost_ret (v := .tuple #[ptV true 0 0, .nilIface]) (by simp [results, Tryz.results73, go_sem, s0, s1, s2]) rfl ⟨by rw [hV.out], B.out⟩
theorem cReadE1 (hn : M.length = 1) (h0 : M.getD 0 0 ≠ 0) : Calls Tryz.prog 73 #[.slice (some ⟨b, o, none⟩) 1 c] w fun e w' => e = .returned (crdV M) ∧ Below w.heap.size w w' := by
 have hV : Hid (crdV M = .tuple #[ptV false 0 0, errV 3]) := Lib.hid (by unfold crdV Obol.crd; rw [if_neg (fun h => h0 h.2), if_neg (fun h => by omega)])
 have h1 := hBL 0 (by omega)
 rw [Nat.add_zero] at h1
 obtain ⟨v, hv⟩ : ∃ v : Int, ((M.getD 0 0 : Nat) : Int) = v := ⟨_, rfl⟩
 rw [hv] at h1
 have hz : (v == 0) = false := beq_eq_false_iff_ne.2 (by omega)
 replace hv := Lib.hid hv
 have hlt := hBL.lt (by omega)
 clear hBL hn h0
 go_enter Tryz.func73, Tryz.ntmps73
 go_wp2_with fail
 refine bodyPost_ret (v := .tuple #[ptV false 0 0, errV 3]) (by simp [results, Tryz.results73, go_sem]) rfl ⟨by rw [hV.out], ?_⟩
 repeat (first | exact Below.refl _ _ | assumption | apply bDrewN | apply bDrew | apply bAlloc | refine bSet ?_ (by omega) | refine bThen ?_ (by assumption) (by simp <;> omega))
theorem cReadE17 (hn : M.length = 17) (h0 : M.getD 0 0 ≠ 1) : Calls Tryz.prog 73 #[.slice (some ⟨b, o, none⟩) 17 c] w fun e w' => e = .returned (crdV M) ∧ Below w.heap.size w w' := by
 have hV : Hid (crdV M = .tuple #[ptV false 0 0, errV 3]) := Lib.hid (by unfold crdV Obol.crd; rw [if_neg (fun h => by omega), if_neg (fun h => h0 h.2)])
 have h1 := hBL 0 (by omega)
 rw [Nat.add_zero] at h1
 obtain ⟨v, hv⟩ : ∃ v : Int, ((M.getD 0 0 : Nat) : Int) = v := ⟨_, rfl⟩
 rw [hv] at h1
 have hz : (v != 1) = true := bne_iff_ne.2 (by omega)
 replace hv := Lib.hid hv
 have hlt := hBL.lt (by omega)
 clear hBL hn h0
 go_enter Tryz.func73, Tryz.ntmps73
 go_wp2_with fail
 refine bodyPost_ret (v := .tuple #[ptV false 0 0, errV 3]) (by simp [results, Tryz.results73, go_sem]) rfl ⟨by rw [hV.out], ?_⟩
 repeat (first | exact Below.refl _ _ | assumption | apply bDrewN | apply bDrew | apply bAlloc | refine bSet ?_ (by omega) | refine bThen ?_ (by assumption) (by simp <;> omega))
set_option maxRecDepth 8000 in
set_option maxHeartbeats 4000000 in
theorem cRead17 (hb256 : ∀ i, M.getD i 0 < 256) (hn : M.length = 17) (h0 : M.getD 0 0 = 1) : Calls Tryz.prog 73 #[.slice (some ⟨b, o, none⟩) 17 c] w fun e w' => e = .returned (crdV M) ∧ Below w.heap.size w w' := by
 have hA8 : Hid (B8 8 ((M.drop 1).take 8)) := Lib.hid ⟨by rw [List.length_take, List.length_drop]; omega, fun i => by rw [Obol.gd_take]; split; rw [Obol.gd_drop]; exact hb256 _; decide⟩
 have hB8 : Hid (B8 8 (M.drop 9)) := Lib.hid ⟨by rw [List.length_drop]; omega, fun i => by rw [Obol.gd_drop]; exact hb256 _⟩
 have hV0 : crdV M = if Obol.isC (Obol.num8 ((M.drop 1).take 8)) (Obol.num8 (M.drop 9)) = true then .tuple #[ptV false ((Obol.num8 ((M.drop 1).take 8) : Nat) : Int) ((Obol.num8 (M.drop 9) : Nat) : Int), .nilIface] else .tuple #[ptV false 0 0, errV 3] := by
  unfold crdV Obol.crd
  rw [if_neg (fun h => by omega), if_pos ⟨hn, h0⟩]
  split <;> rename_i h
  ·split at h
   ·obtain rfl := Option.some.inj h
    rename_i h2
    rw [if_pos h2]
   ·cases h
  ·split at h
   ·cases h
   ·rename_i h2
    rw [if_neg h2]
 have hA : Hid (∀ i : Nat, i < 8 → w.cell? ⟨b, o + 1 + i, none⟩ = some (.int .u8 ((((M.drop 1).take 8).getD i 0 : Nat) : Int))) := Lib.hid (fun i hi => by rw [Nat.add_assoc, hBL (1 + i) (by omega), Obol.gd_take, if_pos hi, Obol.gd_drop])
 have hB : Hid (∀ i : Nat, i < 8 → w.cell? ⟨b, o + 1 + (8 + i), none⟩ = some (.int .u8 (((M.drop 9).getD i 0 : Nat) : Int))) := Lib.hid (fun i hi => by rw [Nat.add_assoc, hBL (1 + (8 + i)) (by omega), Obol.gd_drop, show 1 + (8 + i) = 9 + i by omega])
 have h1 := hBL 0 (by omega)
 rw [Nat.add_zero] at h1
 rw [h0] at h1
 have hlt := hBL.lt (by omega)
 obtain ⟨A, hAe⟩ : ∃ A, (M.drop 1).take 8 = A := ⟨_, rfl⟩
 obtain ⟨B, hBe⟩ : ∃ B, M.drop 9 = B := ⟨_, rfl⟩
 rw [hAe] at hA8 hV0 hA
 rw [hBe] at hB8 hV0 hB
 have hV := Lib.hid hV0
 have hsl := fun W => slice_rest (P := Tryz.prog) 26 5 Tryz.underlying26 info8 b o 17 c 1 (by omega) (by omega) W
 rw [if_neg (by omega)] at hsl
 have hc17 : (17 : Int) ≤ (c : Int) := by omega
 replace hAe := Lib.hid hAe
 replace hBe := Lib.hid hBe
 clear hBL hn h0 hb256 hV0
 go_enter Tryz.func73, Tryz.ntmps73
 go_upto_region 7 with fail
 have H0 := ((HR.refl w).new #[.bool false, .int .u64 0, .int .u64 0] 31).new #[.int .u64 0, .int .u64 0] 25
 simp only [World.size_alloc] at H0
 generalize (w.alloc (.cells #[.bool false, .int .u64 0, .int .u64 0] 31)).alloc (.cells #[.int .u64 0, .int .u64 0] 25) = w2 at H0 ⊢
 obtain ⟨b4, hb4⟩ : ∃ z, w.heap.size + 1 = z := ⟨_, rfl⟩
 rw [hb4] at H0 ⊢
 have hne : Hid (w.heap.size < b4) := Lib.hid (by omega)
 have H1 := Lib.hid H0
 replace hb4 := Lib.hid hb4
 clear H0
 go_loopw [32] (fun q wr => ∃ i m n : Int, q = .int .i64 i ∧ Hid (CrI A B m n i) ∧ Hid (HR w wr [(b4, #[.int .u64 m, .int .u64 n], 25), (w.heap.size, #[.bool false, .int .u64 0, .int .u64 0], 31)])) (fun q _ => (16 - intOf q).toNat)
 case atStart => exact ⟨0, 0, 0, rfl, Lib.hid ⟨by omega, by omega, by omega, by omega, fun _ => ⟨⟨by omega, by omega, by omega, by decide, rfl⟩, rfl⟩, fun h => absurd h (by omega)⟩, H1⟩
 case round =>
  clear H1
  obtain ⟨i, m, n, rfl, HI, HR1⟩ := hrel
  obtain ⟨i0, i1, m0, n0, hlo, hhi⟩ := HI.out
  have hl4 := HR1.out.lt (b := b4) (cs := #[.int .u64 m, .int .u64 n]) (t := 25) (by simp)
  have x0 := HR1.out.cell (b := b4) (cs := #[.int .u64 m, .int .u64 n]) (t := 25) (by simp) 0 rfl
  have x1 := HR1.out.cell (b := b4) (cs := #[.int .u64 m, .int .u64 n]) (t := 25) (by simp) 1 rfl
  have y0 := HR1.out.free (b := b4) (cs := #[.int .u64 m, .int .u64 n]) (t := 25) (by simp) 0
  have y1 := HR1.out.free (b := b4) (cs := #[.int .u64 m, .int .u64 n]) (t := 25) (by simp) 1
  by_cases hi16 : i < 16
  ·have hdi : decide (i < 16) = true := decide_eq_true hi16
   by_cases hi8 : i < 8
   ·obtain ⟨hRI, rfl⟩ := hlo (by omega)
    obtain ⟨nn0, nn1⟩ := hRI.bound hi8
    obtain ⟨v, hv⟩ : ∃ v : Int, ((A.getD i.toNat 0 : Nat) : Int) = v := ⟨_, rfl⟩
    have hcell := (HR1.out.2.cell (p := ⟨b, o + 1 + i.toNat, none⟩) hlt).trans (hA.out i.toNat (by omega))
    rw [hv] at hcell
    have v0 : 0 ≤ v := by omega
    have v1 : v ≤ 255 := by have := hA8.out.lt i.toNat; omega
    have hor := or_byte nn0 nn1 v0 v1
    have HN : Hid (CrI A B (256 * m + v) 0 (i + 1)) := Lib.hid ⟨by omega, by omega, by omega, by omega, fun _ => ⟨hRI.step hA8.out hi8 hv.symm v0 v1, rfl⟩, fun h => by
     obtain rfl : i = 7 := by omega
     exact ⟨(hRI.step hA8.out hi8 hv.symm v0 v1).done hA8.out, by omega, by omega, by omega, by decide, rfl⟩⟩
    have HS : Hid (HR w (wr.setCell ⟨b4, 0, none⟩ (.int .u64 (256 * m + v))) [(b4, #[.int .u64 (256 * m + v), .int .u64 0], 25), (w.heap.size, #[.bool false, .int .u64 0, .int .u64 0], 31)]) := Lib.hid (HR1.out.put (by have := hne.out; simp; omega) (by have := hne.out; omega) 0 _)
    have hq1 : i.tdiv 8 = 0 := by rw [Int.tdiv_eq_ediv_of_nonneg i0]; omega
    have hq2 : i / 8 = 0 := by omega
    replace hv := Lib.hid hv
    clear hRI hlo hhi
    go_wp2_with fail
    go_roundw
    case rel => exact ⟨i + 1, _, _, rfl, HN, HS⟩
    case measure => simp [intOf]; omega
   ·obtain ⟨hm, hRI⟩ := hhi (by omega)
    have hi8' : i - 8 < 8 := by omega
    obtain ⟨nn0, nn1⟩ := hRI.bound hi8'
    obtain ⟨v, hv⟩ : ∃ v : Int, ((B.getD (i - 8).toNat 0 : Nat) : Int) = v := ⟨_, rfl⟩
    have hbB := hB.out (i - 8).toNat (by omega)
    rw [show 8 + (i - 8).toNat = i.toNat by omega] at hbB
    have hcell := (HR1.out.2.cell (p := ⟨b, o + 1 + i.toNat, none⟩) hlt).trans hbB
    clear hbB
    rw [hv] at hcell
    have v0 : 0 ≤ v := by omega
    have v1 : v ≤ 255 := by have := hB8.out.lt (i - 8).toNat; omega
    have hor := or_byte nn0 nn1 v0 v1
    have HN : Hid (CrI A B m (256 * n + v) (i + 1)) := Lib.hid ⟨by omega, by omega, by omega, by omega, fun h => absurd h (by omega), fun h => by
     refine ⟨hm, ?_⟩
     have := hRI.step hB8.out hi8' hv.symm v0 v1
     rwa [show i - 8 + 1 = i + 1 - 8 by omega] at this⟩
    have HS : Hid (HR w (wr.setCell ⟨b4, 1, none⟩ (.int .u64 (256 * n + v))) [(b4, #[.int .u64 m, .int .u64 (256 * n + v)], 25), (w.heap.size, #[.bool false, .int .u64 0, .int .u64 0], 31)]) := Lib.hid (HR1.out.put (by have := hne.out; simp; omega) (by have := hne.out; omega) 1 _)
    have hq1 : i.tdiv 8 = 1 := by rw [Int.tdiv_eq_ediv_of_nonneg i0]; omega
    have hq2 : i / 8 = 1 := by omega
    replace hv := Lib.hid hv
    replace hm := Lib.hid hm
    clear hRI hlo hhi hi8
    go_wp2_with fail
    go_roundw
    case rel => exact ⟨i + 1, _, _, rfl, HN, HS⟩
    case measure => simp [intOf]; omega
  ·obtain rfl : i = 16 := by omega
   obtain ⟨hm, hRI⟩ := hhi (by omega)
   have hn2 := hRI.done hB8.out
   rw [← hm, ← hn2] at hV
   have hm3 : m.toNat = Obol.num8 A := by omega
   have hn3 : n.toNat = Obol.num8 B := by omega
   have cI := fun W => cIs false m n m0 n0 W
   rw [show isPt false m n = Obol.isC m.toNat n.toNat from rfl, hm3, hn3] at cI
   have hH := HR1
   replace hm := Lib.hid hm
   replace hn2 := Lib.hid hn2
   replace hm3 := Lib.hid hm3
   replace hn3 := Lib.hid hn3
   clear hlo hhi hRI HI
   go_upto_region 12 with fail
   have H7 := HR1.out.new #[.bool false, .int .u64 m, .int .u64 n] 31
   clear x0 x1 y0 y1
   generalize wr.alloc (.cells #[.bool false, .int .u64 m, .int .u64 n] 31) = w7 at H7 ⊢
   generalize wr.heap.size = b7 at H7 hl4 ⊢
   have hl7 : Hid (w.heap.size < b7) := Lib.hid (by have := hne.out; omega)
   replace H7 := Lib.hid H7
   have k0 := H7.out.cell (b := b7) (cs := #[.bool false, .int .u64 m, .int .u64 n]) (t := 31) (by simp) 0 rfl
   have k1 := H7.out.cell (b := b7) (cs := #[.bool false, .int .u64 m, .int .u64 n]) (t := 31) (by simp) 1 rfl
   have k2 := H7.out.cell (b := b7) (cs := #[.bool false, .int .u64 m, .int .u64 n]) (t := 31) (by simp) 2 rfl
   have fin : ∀ (W : World) (H : HR w W [(b7, #[.bool false, .int .u64 m, .int .u64 n], 31), (b4, #[.int .u64 m, .int .u64 n], 25), (w.heap.size, #[.bool false, .int .u64 0, .int .u64 0], 31)]) (X Y : Int), HR w (((W.setCell ⟨w.heap.size, 0, none⟩ (.bool false)).setCell ⟨w.heap.size, 1, none⟩ (.int .u64 X)).setCell ⟨w.heap.size, 2, none⟩ (.int .u64 Y)) [(w.heap.size, #[.bool false, .int .u64 X, .int .u64 Y], 31)] := fun W H X Y => HR.put3 (HR.sub (qs := [(w.heap.size, #[.bool false, .int .u64 0, .int .u64 0], 31)]) H (by simp)) (by simp) (Nat.le_refl _)
   replace fin := Lib.hid fin
   cases hC : Obol.isC (Obol.num8 A) (Obol.num8 B)
   ·rw [hC] at cI hV
    have hV2 : Hid (crdV M = .tuple #[ptV false 0 0, errV 3]) := Lib.hid (by rw [hV.out]; rfl)
    replace cI := Lib.hid cI
    clear hC hV
    go_wp2_with fail
    refine (cI.out _).mono ?_
    rintro e w8 ⟨rfl, hb8⟩
    have H8 := Lib.hid (H7.out.next hb8)
    clear k0 k1 k2 hb8 H7
    have e0 := H8.out.free (b := w.heap.size) (cs := #[.bool false, .int .u64 0, .int .u64 0]) (t := 31) (by simp) 0
    have e1 := H8.out.free (b := w.heap.size) (cs := #[.bool false, .int .u64 0, .int .u64 0]) (t := 31) (by simp) 1
    have e2 := H8.out.free (b := w.heap.size) (cs := #[.bool false, .int .u64 0, .int .u64 0]) (t := 31) (by simp) 2
    have e3 := H8.out.cell (b := w.heap.size) (cs := #[.bool false, .int .u64 0, .int .u64 0]) (t := 31) (by simp) 0 rfl
    have e4 := H8.out.cell (b := w.heap.size) (cs := #[.bool false, .int .u64 0, .int .u64 0]) (t := 31) (by simp) 1 rfl
    have e5 := H8.out.cell (b := w.heap.size) (cs := #[.bool false, .int .u64 0, .int .u64 0]) (t := 31) (by simp) 2 rfl
    have HS := Lib.hid (fin.out _ H8.out 0 0)
    have s0 := HS.out.cell (b := w.heap.size) (cs := #[.bool false, .int .u64 0, .int .u64 0]) (t := 31) (by simp) 0 rfl
    have s1 := HS.out.cell (b := w.heap.size) (cs := #[.bool false, .int .u64 0, .int .u64 0]) (t := 31) (by simp) 1 rfl
    have s2 := HS.out.cell (b := w.heap.size) (cs := #[.bool false, .int .u64 0, .int .u64 0]) (t := 31) (by simp) 2 rfl
    go_wp2_with fail
    refine bodyPost_ret (v := .tuple #[ptV false 0 0, errV 3]) (by simp [results, Tryz.results73, go_sem, s0, s1, s2]) rfl ⟨by rw [hV2.out], HS.out.2⟩
   ·rw [hC] at cI hV
    have hV2 : Hid (crdV M = .tuple #[ptV false m n, .nilIface]) := Lib.hid (by rw [hV.out]; rfl)
    replace cI := Lib.hid cI
    clear hC hV
    go_wp2_with fail
    refine (cI.out _).mono ?_
    rintro e w8 ⟨rfl, hb8⟩
    have H8 := Lib.hid (H7.out.next hb8)
    clear k0 k1 k2 hb8 H7
    have k0 := H8.out.cell (b := b7) (cs := #[.bool false, .int .u64 m, .int .u64 n]) (t := 31) (by simp) 0 rfl
    have k1 := H8.out.cell (b := b7) (cs := #[.bool false, .int .u64 m, .int .u64 n]) (t := 31) (by simp) 1 rfl
    have k2 := H8.out.cell (b := b7) (cs := #[.bool false, .int .u64 m, .int .u64 n]) (t := 31) (by simp) 2 rfl
    have e0 := H8.out.free (b := w.heap.size) (cs := #[.bool false, .int .u64 0, .int .u64 0]) (t := 31) (by simp) 0
    have e1 := H8.out.free (b := w.heap.size) (cs := #[.bool false, .int .u64 0, .int .u64 0]) (t := 31) (by simp) 1
    have e2 := H8.out.free (b := w.heap.size) (cs := #[.bool false, .int .u64 0, .int .u64 0]) (t := 31) (by simp) 2
    have e3 := H8.out.cell (b := w.heap.size) (cs := #[.bool false, .int .u64 0, .int .u64 0]) (t := 31) (by simp) 0 rfl
    have e4 := H8.out.cell (b := w.heap.size) (cs := #[.bool false, .int .u64 0, .int .u64 0]) (t := 31) (by simp) 1 rfl
    have e5 := H8.out.cell (b := w.heap.size) (cs := #[.bool false, .int .u64 0, .int .u64 0]) (t := 31) (by simp) 2 rfl
    have HS := Lib.hid (fin.out _ H8.out m n)
    have s0 := HS.out.cell (b := w.heap.size) (cs := #[.bool false, .int .u64 m, .int .u64 n]) (t := 31) (by simp) 0 rfl
    have s1 := HS.out.cell (b := w.heap.size) (cs := #[.bool false, .int .u64 m, .int .u64 n]) (t := 31) (by simp) 1 rfl
    have s2 := HS.out.cell (b := w.heap.size) (cs := #[.bool false, .int .u64 m, .int .u64 n]) (t := 31) (by simp) 2 rfl
    go_wp2_with fail
    refine bodyPost_ret (v := .tuple #[ptV false m n, .nilIface]) (by simp [results, Tryz.results73, go_sem, s0, s1, s2]) rfl ⟨by rw [hV2.out], HS.out.2⟩
end
theorem cRead (b o c : Nat) (M : List Nat) (w : World) (hc : M.length ≤ c) (hc2 : c ≤ 9223372036854775807) (hBL : BL w b o M) (hb256 : ∀ i, M.getD i 0 < 256) (k : Nat) (hk : M.length = k) (hk2 : k = 1 ∨ k = 17) :
  Calls Tryz.prog 73 #[.slice (some ⟨b, o, none⟩) k c] w fun e w' => e = .returned (crdV M) ∧ Below w.heap.size w w' := by
 rcases hk2 with rfl | rfl
 ·by_cases h0 : M.getD 0 0 = 0
  ·exact cReadI b o c M w hc hc2 hBL hk h0
  ·exact cReadE1 b o c M w hc hc2 hBL hk h0
 ·by_cases h0 : M.getD 0 0 = 1
  ·exact cRead17 b o c M w hc hc2 hBL hb256 hk h0
  ·exact cReadE17 b o c M w hc hc2 hBL hk h0

end Go.Proofs.YtkfimfjjmdjbdaaGreatDoor
