import Derived.Test.YtkfimfjjmdjbdaaGreatDoorUo
import Derived.Test.YtkfimfjjmdjbdaaGreatDoorUv
set_option linter.unusedVariables false
set_option linter.unusedSimpArgs false
set_option linter.unusedSectionVars false
/- Walks: the reference of layer 19: a transaction's bytes. -/
namespace Go.Proofs.YtkfimfjjmdjbdaaGreatDoor
open Go.RowKit
set_option linter.unusedVariables false

def OwI (M : List Nat) (w : World) (e : Ending) (w' : World) : Prop := ∃ g c, e = .returned (.slice (some ⟨g, 0, none⟩) M.length c) ∧ OwnB w' w.heap.size (.slice (some ⟨g, 0, none⟩) M.length c) M ∧ Below w.heap.size w w'
theorem own_rowR {w : World} {g : Nat} {L : List Nat} (h : Row w g (u8s L) 5) (base : Nat) (hb : base ≤ g) (hl : L.length ≤ 1000000) : OwnB w base (.slice (some ⟨g, 0, none⟩) L.length L.length) L :=
 ⟨by simp, .inr ⟨g, L.length, u8s L, rfl, hb, h, Nat.le_refl _, by unfold maxLen; omega, by rw [u8s_size, Nat.mul_one], by unfold u8s; rw [Nat.mul_one]; exact List.take_of_length_le (by simp)⟩⟩
theorem r2BytesO (n : Int) (h0 : 0 ≤ n) (h1 : n ≤ 18446744073709551615) (w : World) : Calls Tryz.prog 37 #[.int .u64 n] w (OwI (Obol.be8 n.toNat) w) :=
 (r2Bytes n h0 h1 w).mono fun e w' ⟨h1, h2, h3⟩ => ⟨w.heap.size, 8, h1, own_rowR h2 w.heap.size (Nat.le_refl _) (by show 8 ≤ 1000000; decide), h3⟩
theorem r7BytesO (X Y : Int) (hX : 0 ≤ X) (hY : 0 ≤ Y) (hn : Obol.isN (X.toNat, Y.toNat) = true) (w : World) : Calls Tryz.prog 61 #[edV X Y] w (OwI (edC X Y) w) := by
 have hlt : X < 288230376287764481 ∧ Y < 288230376287764481 := by
  unfold Obol.isN at hn
  simp only [Bool.and_eq_true, decide_eq_true_eq] at hn
  have h1 := hn.1.1
  have h2 := hn.1.2
  rw [Obol.R_def] at h1 h2
  omega
 exact (r7Bytes X Y hX (by omega) hY (by omega) w).mono fun e w' ⟨g, h1, h2, h3, h4⟩ => ⟨g, 8, h1, own_rowR h3 w.heap.size h2 (by show 8 ≤ 1000000; decide), h4⟩

theorem r3BytesI (X Y : Int) (hp : isPt true X Y = true) (w : World) : Calls Tryz.prog 38 #[ptV true X Y] w (OwI (Obol.ptL true X.toNat Y.toNat) w) := by
 go_enter Tryz.func38, Tryz.ntmps38
 go_wp2_with fail
 go_ret
 refine ⟨_, _, rfl, ?_, ?_⟩
 ·have h := own_fresh (w.alloc (.cells #[.bool true, .int .u64 X, .int .u64 Y] 31)) w.heap.size [0] (by simp) (by decide)
  rw [World.size_alloc] at h
  exact h
 ·repeat (first | exact Below.refl _ _ | assumption | apply bDrewN | apply bDrew | apply bAlloc | refine bSet ?_ (by omega) | refine bThen ?_ (by assumption) (by simp <;> omega))
set_option maxRecDepth 100000 in
set_option maxHeartbeats 100000000 in
theorem r3BytesP (X Y : Int) (hX : 0 ≤ X) (hY : 0 ≤ Y) (hX1 : X ≤ 18446744073709551615) (hY1 : Y ≤ 18446744073709551615) (w : World) : Calls Tryz.prog 38 #[ptV false X Y] w (OwI (Obol.ptL false X.toNat Y.toNat) w) := by
 have cX := Lib.hid (fun w => r2BytesO X hX hX1 w)
 have cY := Lib.hid (fun w => r2BytesO Y hY hY1 w)
 go_enter Tryz.func38, Tryz.ntmps38
 go_upto_region 3 with fail
 have H1 := Lib.hid ((HR.refl w).new #[.bool false, .int .u64 X, .int .u64 Y] 31)
 generalize w.alloc (.cells #[.bool false, .int .u64 X, .int .u64 Y] 31) = w2 at H1 ⊢
 have hlt := H1.out.lt (b := w.heap.size) (cs := #[.bool false, .int .u64 X, .int .u64 Y]) (t := 31) (by simp)
 have k1 := H1.out.cell (b := w.heap.size) (cs := #[.bool false, .int .u64 X, .int .u64 Y]) (t := 31) (by simp) 1 rfl
 go_wp2_with fail
 refine (cX.out _).mono ?_
 rintro e w3 ⟨g3, c3, rfl, hM3, hb3⟩
 have O2 := own_fresh w2 w.heap.size [1] H1.out.2.size (by decide)
 have O3 := OwnB.below O2 hb3
 have H3 := (H1.out.alloc _).next hb3
 obtain ⟨v4, w4, hra, hOa, hba, hga, -⟩ := append_ownB w3 w.heap.size _ _ _ O3 ⟨g3, 0, none⟩ _ c3 rfl (fun k hk => by rw [addB]; exact hM3.bl k hk) (by show 1 + 8 ≤ 140737488355328; decide) H3.2.size
 have H4 := Lib.hid (H3.keep (KeepT.grown O3 hga) hba (by simp))
 have O4 := Lib.hid hOa
 clear k1 hM3 hb3 O2 O3 H3 hOa hba hga hlt
 have k2 := H4.out.cell (b := w.heap.size) (cs := #[.bool false, .int .u64 X, .int .u64 Y]) (t := 31) (by simp) 2 rfl
 go_wp2_with (at_builtin; refine wpList_appended rfl _ _ _ _ rfl _ _ _ rfl rfl hra ?_)
 refine (cY.out _).mono ?_
 rintro e w5 ⟨g5, c5, rfl, hM5, hb5⟩
 have O5 := O4.out.below hb5
 have H5 := H4.out.next hb5
 obtain ⟨v6, w6, hrb, hOb, hbb, -, hnil⟩ := append_ownB w5 w.heap.size _ _ _ O5 ⟨g5, 0, none⟩ _ c5 rfl (fun k hk => by rw [addB]; exact hM5.bl k hk) (by show 1 + 8 + 8 ≤ 140737488355328; decide) H5.2.size
 obtain ⟨g6, c6, cur6, rfl, -, -, -, -, -, -⟩ := hOb.size (by show 0 < 1 + 8 + 8; decide)
 have O6 := Lib.hid hOb
 have B6 := Lib.hid (H5.2.trans hbb)
 clear k2 hM5 hb5 O5 H5 hOb hbb hnil
 go_wp2_with (at_builtin; refine wpList_appended rfl _ _ _ _ rfl _ _ _ rfl rfl hrb ?_)
 go_ret
 exact ⟨g6, c6, rfl, O6.out, B6.out⟩
theorem r3BytesO (i : Bool) (X Y : Int) (hX : 0 ≤ X) (hY : 0 ≤ Y) (hX1 : X ≤ 18446744073709551615) (hY1 : Y ≤ 18446744073709551615) (hp : isPt i X Y = true) (w : World) : Calls Tryz.prog 38 #[ptV i X Y] w (OwI (Obol.ptL i X.toNat Y.toNat) w) := by
 cases i
 ·exact r3BytesP X Y hX hY hX1 hY1 w
 ·exact r3BytesI X Y hp w

/-! the reference's bytes -/
def rh1 (t : TxD) : List Nat := (Obol.be8 t.root.toNat ++ Obol.be8 t.inn.toNat) ++ Obol.be8 t.out.toNat
def rh2 (t : TxD) : List Nat := (rh1 t ++ edC t.fx t.fy) ++ edC t.tx t.ty
def rh3 (t : TxD) : List Nat := rh2 t ++ Obol.be8 t.seq.toNat
def rh4 (t : TxD) : List Nat := (rh3 t ++ Obol.be8 t.e0.toNat) ++ Obol.be8 t.e1.toNat
def rh5 (t : TxD) : List Nat := (rh4 t ++ Obol.be8 t.m0.toNat) ++ Obol.be8 t.m1.toNat
def rhd (t : TxD) (L0 L1 : List Nat) : Nat → List Nat
 | 0 => rh5 t
 | 1 => (rh5 t ++ edC t.n0x t.n0y) ++ L0
 | _ => (((rh5 t ++ edC t.n0x t.n0y) ++ L0) ++ edC t.n1x t.n1y) ++ L1
theorem rh5_hd3 (t : TxD) : rh5 t = hd3 t := by
 unfold rh5 rh4 rh3 rh2 rh1 hd3 hd2 hd1 Obol.be8s
 simp only [List.flatMap_cons, List.flatMap_nil, List.append_nil, List.append_assoc]
theorem rhd_hd4 (t : TxD) (L0 L1 : List Nat) : ∀ j, rhd t L0 L1 j = hd4 t L0 L1 j
 | 0 => rh5_hd3 t
 | 1 => by show (rh5 t ++ _) ++ _ = (hd3 t ++ _) ++ _; rw [rh5_hd3]
 | _ + 2 => by show (((rh5 t ++ _) ++ _) ++ _) ++ _ = (((hd3 t ++ _) ++ _) ++ _) ++ _; rw [rh5_hd3]
def rbo (t : TxD) (L0 L1 : List Nat) : List Nat := ((((hd4 t L0 L1 2 ++ Obol.be8 t.a0.toNat) ++ Obol.be8 t.a1.toNat) ++ Obol.ptL t.ia t.xa.toNat t.ya.toNat) ++ Obol.ptL t.ib t.xb.toNat t.yb.toNat) ++ Obol.ptL t.ic t.xc.toNat t.yc.toNat
theorem rbo_bod (t : TxD) (L0 L1 : List Nat) : rbo t L0 L1 = bodL t L0 L1 := by
 unfold rbo bodL prL
 simp only [List.append_assoc]
theorem rh_len (t : TxD) : (rh1 t).length = 24 ∧ (rh2 t).length = 40 ∧ (rh3 t).length = 48 ∧ (rh4 t).length = 64 ∧ (rh5 t).length = 80 := ⟨rfl, rfl, rfl, rfl, rfl⟩
theorem len_ok {L M : List Nat} (h : L.length ≤ 1000) (h2 : M.length ≤ 1000) : L.length + M.length ≤ 140737488355328 := by omega
/-- What the head asks. -/
structure HeadI (t : TxD) : Prop where
 pf : Obol.isN (t.fx.toNat, t.fy.toNat) = true
 pt : Obol.isN (t.tx.toNat, t.ty.toNat) = true
 pn0 : Obol.isN (t.n0x.toNat, t.n0y.toNat) = true
 pn1 : Obol.isN (t.n1x.toNat, t.n1y.toNat) = true
 l0 : t.l0 = 32
 l1 : t.l1 = 32
theorem MayI.head {t : TxD} (h : MayI t) : HeadI t := ⟨h.pf, h.pt, h.pn0, h.pn1, h.l0, h.l1⟩
set_option maxRecDepth 100000 in
set_option maxHeartbeats 100000000 in
theorem r19Head (t : TxD) (L0 L1 : List Nat) (h : TxOk t) (m : HeadI t) (w : World) (hB : Bods t L0 L1 w.heap.size w) :
  Calls Tryz.prog 30 #[txV t] w fun e w' => ∃ g c, e = .returned (.slice (some ⟨g, 0, none⟩) 160 c) ∧ OwnB w' w.heap.size (.slice (some ⟨g, 0, none⟩) 160 c) (hd4 t L0 L1 2) ∧ Below w.heap.size w w' := by
 have hok := Lib.hid h
 have hI := Lib.hid m
 have hBo := Lib.hid hB
 have hLn : Hid (L0.length = 32 ∧ L1.length = 32) := Lib.hid ⟨hB.n0.trans m.l0, hB.n1.trans m.l1⟩
 clear h m hB
 go_enter Tryz.func30, Tryz.ntmps30
 go_upto_region 1 with fail
 have H1 := Lib.hid ((HR.refl w).new (txC t) 37)
 generalize w.alloc (.cells (txC t) 37) = w2 at H1 ⊢
 generalize hb1 : w.heap.size = b1 at H1 ⊢
 have hbs : Hid (w.heap.size = b1) := Lib.hid hb1
 clear hb1
 refine wp_region_noPanic ?_
 refine wp_region_held_drew (S := fun wq => wq.cell? ⟨b1, 0, none⟩ = some (.int .u64 t.root) ∧ wq.cell? ⟨b1, 1, none⟩ = some (.int .u64 t.inn) ∧ wq.cell? ⟨b1, 2, none⟩ = some (.int .u64 t.out) ∧ HR w wq [(b1, (txC t), 37)]) (by kernel_rfl) ?_ (fun hHeld => ?_)
 ·have hq0 := HR.drew H1.out
  exact ⟨kT b1 t hq0 0, kT b1 t hq0 1, kT b1 t hq0 2, hq0⟩
 refine tk 0 hHeld ?_; refine tk 1 hHeld ?_; refine tk 3 hHeld ?_; refine tk 4 hHeld ?_; refine tk 7 hHeld ?_; refine tk 8 hHeld ?_
 refine st 2 fun K hK => ?_
 go_simp
 refine (r2BytesO t.root hok.out.root0 hok.out.root1 _).mono ?_
 rintro e wb1 ⟨g1, c1, rfl, hM1, hbM1⟩
 have hr1 := HR.next hHeld.2.2.2 hbM1
 have hN1 := hM1.base (HR.far hHeld.2.2.2).2
 refine hK.out _ _ ?_ (fun hHeld => ?_)
 ·exact ⟨kT b1 t hr1 0, kT b1 t hr1 1, kT b1 t hr1 2, hr1⟩
 clear hK K
 try simp only [Act.put, List.setIfInBounds_toArray, List.set_cons_zero, List.set_cons_succ]
 refine st 5 fun K hK => ?_
 go_simp
 refine (r2BytesO t.inn hok.out.inn0 hok.out.inn1 _).mono ?_
 rintro e wb2 ⟨g2, c2, rfl, hM2, hbM2⟩
 have hr2 := HR.next hHeld.2.2.2 hbM2
 have hN2 := OwnB.below hN1 hbM2
 refine hK.out _ _ ?_ (fun hHeld => ?_)
 ·exact ⟨kT b1 t hr2 0, kT b1 t hr2 1, kT b1 t hr2 2, hr2⟩
 clear hK K
 try simp only [Act.put, List.setIfInBounds_toArray, List.set_cons_zero, List.set_cons_succ]
 obtain ⟨va2, wa2, hra2, hOa2, hba2, hga2, -⟩ := append_ownB _ w.heap.size _ _ _ hN2 ⟨g2, 0, none⟩ _ c2 rfl (fun k hk => by rw [addB]; exact hM2.bl k hk) (by show 8 + 8 ≤ 140737488355328; decide) (HR.far hHeld.2.2.2).2
 have hrA2 := HR.keep hHeld.2.2.2 (KeepT.grown hN2 hga2) hba2 (by simp)
 refine st 6 fun K hK => ?_
 refine wp_appended _ _ _ _ rfl _ _ _ rfl rfl hra2 ?_
 refine hK.out _ _ ?_ (fun hHeld => ?_)
 ·exact ⟨kT b1 t hrA2 0, kT b1 t hrA2 1, kT b1 t hrA2 2, hrA2⟩
 clear hK K
 try simp only [Act.put, List.setIfInBounds_toArray, List.set_cons_zero, List.set_cons_succ]
 refine st 9 fun K hK => ?_
 go_simp
 refine (r2BytesO t.out hok.out.out0 hok.out.out1 _).mono ?_
 rintro e wb3 ⟨g3, c3, rfl, hM3, hbM3⟩
 have hr3 := HR.next hHeld.2.2.2 hbM3
 have hN3 := OwnB.below hOa2 hbM3
 refine hK.out _ _ ?_ (fun hHeld => ?_)
 ·exact ⟨kT b1 t hr3 0, kT b1 t hr3 1, kT b1 t hr3 2, hr3⟩
 clear hK K
 try simp only [Act.put, List.setIfInBounds_toArray, List.set_cons_zero, List.set_cons_succ]
 obtain ⟨va3, wa3, hra3, hOa3, hba3, hga3, -⟩ := append_ownB _ w.heap.size _ _ _ hN3 ⟨g3, 0, none⟩ _ c3 rfl (fun k hk => by rw [addB]; exact hM3.bl k hk) (by show 8 + 8 + 8 ≤ 140737488355328; decide) (HR.far hHeld.2.2.2).2
 have hrA3 := HR.keep hHeld.2.2.2 (KeepT.grown hN3 hga3) hba3 (by simp)
 refine st 10 fun K hK => ?_
 refine wp_appended _ _ _ _ rfl _ _ _ rfl rfl hra3 ?_
 refine hK.out _ _ ?_ (fun hHeld => ?_)
 ·exact ⟨kT b1 t hrA3 0, kT b1 t hrA3 1, kT b1 t hrA3 2, hrA3⟩
 clear hK K
 try simp only [Act.put, List.setIfInBounds_toArray, List.set_cons_zero, List.set_cons_succ]
 refine tk 11 hHeld ?_
 refine wpAnyH_done (by kernel_rfl) (NoPanic.normal ?_) _
 have O2 : Hid (OwnB wa3 w.heap.size va3 (rh1 t)) := Lib.hid hOa3
 have H2 : Hid (HR w wa3 [(b1, (txC t), 37)]) := Lib.hid (hHeld.2.2.2)
 clear hHeld H1 hM1 hbM1 hr1 hN1 hM2 hbM2 hr2 hN2 hra2 hOa2 hba2 hga2 hrA2 hM3 hbM3 hr3 hN3 hra3 hOa3 hba3 hga3 hrA3
 go_upto_region 2 with fail
 have hOs : OwnB wa3.drew w.heap.size va3 (rh1 t) := O2.out
 refine wp_region_noPanic ?_
 refine wp_region_held_drew (S := fun wq => wq.cell? ⟨b1, 3, none⟩ = some (.int .u64 t.fx) ∧ wq.cell? ⟨b1, 4, none⟩ = some (.int .u64 t.fy) ∧ wq.cell? ⟨b1, 5, none⟩ = some (.int .u64 t.tx) ∧ wq.cell? ⟨b1, 6, none⟩ = some (.int .u64 t.ty) ∧ HR w wq [(b1, (txC t), 37)]) (by kernel_rfl) ?_ (fun hHeld => ?_)
 ·have hq0 := HR.drew H2.out
  exact ⟨kT b1 t hq0 3, kT b1 t hq0 4, kT b1 t hq0 5, kT b1 t hq0 6, hq0⟩
 refine tk 0 hHeld ?_; refine tk 1 hHeld ?_; refine tk 2 hHeld ?_; refine tk 5 hHeld ?_; refine tk 6 hHeld ?_
 refine st 3 fun K hK => ?_
 go_simp
 refine (r7BytesO t.fx t.fy hok.out.fx0 hok.out.fy0 hI.out.pf _).mono ?_
 rintro e wb11 ⟨g11, c11, rfl, hM11, hbM11⟩
 have hr11 := HR.next hHeld.2.2.2.2 hbM11
 have hN11 := OwnB.below hOs hbM11
 refine hK.out _ _ ?_ (fun hHeld => ?_)
 ·exact ⟨kT b1 t hr11 3, kT b1 t hr11 4, kT b1 t hr11 5, kT b1 t hr11 6, hr11⟩
 clear hK K
 try simp only [Act.put, List.setIfInBounds_toArray, List.set_cons_zero, List.set_cons_succ]
 obtain ⟨va11, wa11, hra11, hOa11, hba11, hga11, -⟩ := append_ownB _ w.heap.size _ _ _ hN11 ⟨g11, 0, none⟩ _ c11 rfl (fun k hk => by rw [addB]; exact hM11.bl k hk) (by rw [(rh_len t).1]; show 24 + 8 ≤ 140737488355328; decide) (HR.far hHeld.2.2.2.2).2
 have hrA11 := HR.keep hHeld.2.2.2.2 (KeepT.grown hN11 hga11) hba11 (by simp)
 refine st 4 fun K hK => ?_
 refine wp_appended _ _ _ _ rfl _ _ _ rfl rfl hra11 ?_
 refine hK.out _ _ ?_ (fun hHeld => ?_)
 ·exact ⟨kT b1 t hrA11 3, kT b1 t hrA11 4, kT b1 t hrA11 5, kT b1 t hrA11 6, hrA11⟩
 clear hK K
 try simp only [Act.put, List.setIfInBounds_toArray, List.set_cons_zero, List.set_cons_succ]
 refine st 7 fun K hK => ?_
 go_simp
 refine (r7BytesO t.tx t.ty hok.out.tx0 hok.out.ty0 hI.out.pt _).mono ?_
 rintro e wb12 ⟨g12, c12, rfl, hM12, hbM12⟩
 have hr12 := HR.next hHeld.2.2.2.2 hbM12
 have hN12 := OwnB.below hOa11 hbM12
 refine hK.out _ _ ?_ (fun hHeld => ?_)
 ·exact ⟨kT b1 t hr12 3, kT b1 t hr12 4, kT b1 t hr12 5, kT b1 t hr12 6, hr12⟩
 clear hK K
 try simp only [Act.put, List.setIfInBounds_toArray, List.set_cons_zero, List.set_cons_succ]
 obtain ⟨va12, wa12, hra12, hOa12, hba12, hga12, -⟩ := append_ownB _ w.heap.size _ _ _ hN12 ⟨g12, 0, none⟩ _ c12 rfl (fun k hk => by rw [addB]; exact hM12.bl k hk) (by rw [List.length_append, (rh_len t).1]; show 24 + 8 + 8 ≤ 140737488355328; decide) (HR.far hHeld.2.2.2.2).2
 have hrA12 := HR.keep hHeld.2.2.2.2 (KeepT.grown hN12 hga12) hba12 (by simp)
 refine st 8 fun K hK => ?_
 refine wp_appended _ _ _ _ rfl _ _ _ rfl rfl hra12 ?_
 refine hK.out _ _ ?_ (fun hHeld => ?_)
 ·exact ⟨kT b1 t hrA12 3, kT b1 t hrA12 4, kT b1 t hrA12 5, kT b1 t hrA12 6, hrA12⟩
 clear hK K
 try simp only [Act.put, List.setIfInBounds_toArray, List.set_cons_zero, List.set_cons_succ]
 refine tk 9 hHeld ?_
 refine wpAnyH_done (by kernel_rfl) (NoPanic.normal ?_) _
 have O3 : Hid (OwnB wa12 w.heap.size va12 (rh2 t)) := Lib.hid hOa12
 have H3 : Hid (HR w wa12 [(b1, (txC t), 37)]) := Lib.hid (hHeld.2.2.2.2)
 clear hHeld H2 O2 hOs hM11 hbM11 hr11 hN11 hra11 hOa11 hba11 hga11 hrA11 hM12 hbM12 hr12 hN12 hra12 hOa12 hba12 hga12 hrA12
 have k_seq := kT b1 t H3.out 7
 have cS := Lib.hid (fun W => r2BytesO t.seq hok.out.seq0 hok.out.seq1 W)
 go_wp2_with fail
 refine (cS.out _).mono ?_
 rintro e w5 ⟨g5, c5, rfl, hM5, hb5⟩
 have hN5 := O3.out.below hb5
 have hr5 := H3.out.next hb5
 obtain ⟨v6, w6, hra, hOa, hba, hga, -⟩ := append_ownB w5 w.heap.size _ _ _ hN5 ⟨g5, 0, none⟩ _ c5 rfl (fun k hk => by rw [addB]; exact hM5.bl k hk) (by rw [(rh_len t).2.1]; show 40 + 8 ≤ 140737488355328; decide) hr5.2.size
 have H4 := Lib.hid (hr5.keep (KeepT.grown hN5 hga) hba (by simp))
 have O4 : Hid (OwnB w6 w.heap.size v6 (rh3 t)) := Lib.hid hOa
 clear k_seq
 clear hM5 hb5 hN5 hr5 hOa hba hga O3 H3 cS
 go_upto_region 4 with (at_builtin; refine wpList_appended rfl _ _ _ _ rfl _ _ _ rfl rfl hra ?_)
 clear hra
 have hOs : OwnB w6.drew w.heap.size v6 (rh3 t) := O4.out
 refine wp_region_noPanic ?_
 refine wp_region_held_drew (S := fun wq => wq.cell? ⟨b1, 8, none⟩ = some (.int .u64 t.e0) ∧ wq.cell? ⟨b1, 9, none⟩ = some (.int .u64 t.e1) ∧ HR w wq [(b1, (txC t), 37)]) (by kernel_rfl) ?_ (fun hHeld => ?_)
 ·have hq0 := HR.drew H4.out
  exact ⟨kT b1 t hq0 8, kT b1 t hq0 9, hq0⟩
 refine tk 0 hHeld ?_; refine tk 1 hHeld ?_; refine tk 2 hHeld ?_; refine tk 3 hHeld ?_; refine tk 6 hHeld ?_; refine tk 7 hHeld ?_; refine tk 8 hHeld ?_
 refine st 4 fun K hK => ?_
 go_simp
 refine (r2BytesO t.e0 hok.out.e00 hok.out.e01 _).mono ?_
 rintro e wb21 ⟨g21, c21, rfl, hM21, hbM21⟩
 have hr21 := HR.next hHeld.2.2 hbM21
 have hN21 := OwnB.below hOs hbM21
 refine hK.out _ _ ?_ (fun hHeld => ?_)
 ·exact ⟨kT b1 t hr21 8, kT b1 t hr21 9, hr21⟩
 clear hK K
 try simp only [Act.put, List.setIfInBounds_toArray, List.set_cons_zero, List.set_cons_succ]
 obtain ⟨va21, wa21, hra21, hOa21, hba21, hga21, -⟩ := append_ownB _ w.heap.size _ _ _ hN21 ⟨g21, 0, none⟩ _ c21 rfl (fun k hk => by rw [addB]; exact hM21.bl k hk) (by rw [(rh_len t).2.2.1]; show 48 + 8 ≤ 140737488355328; decide) (HR.far hHeld.2.2).2
 have hrA21 := HR.keep hHeld.2.2 (KeepT.grown hN21 hga21) hba21 (by simp)
 refine st 5 fun K hK => ?_
 refine wp_appended _ _ _ _ rfl _ _ _ rfl rfl hra21 ?_
 refine hK.out _ _ ?_ (fun hHeld => ?_)
 ·exact ⟨kT b1 t hrA21 8, kT b1 t hrA21 9, hrA21⟩
 clear hK K
 try simp only [Act.put, List.setIfInBounds_toArray, List.set_cons_zero, List.set_cons_succ]
 refine st 9 fun K hK => ?_
 go_simp
 refine (r2BytesO t.e1 hok.out.e10 hok.out.e11 _).mono ?_
 rintro e wb22 ⟨g22, c22, rfl, hM22, hbM22⟩
 have hr22 := HR.next hHeld.2.2 hbM22
 have hN22 := OwnB.below hOa21 hbM22
 refine hK.out _ _ ?_ (fun hHeld => ?_)
 ·exact ⟨kT b1 t hr22 8, kT b1 t hr22 9, hr22⟩
 clear hK K
 try simp only [Act.put, List.setIfInBounds_toArray, List.set_cons_zero, List.set_cons_succ]
 obtain ⟨va22, wa22, hra22, hOa22, hba22, hga22, -⟩ := append_ownB _ w.heap.size _ _ _ hN22 ⟨g22, 0, none⟩ _ c22 rfl (fun k hk => by rw [addB]; exact hM22.bl k hk) (by rw [List.length_append, (rh_len t).2.2.1]; show 48 + 8 + 8 ≤ 140737488355328; decide) (HR.far hHeld.2.2).2
 have hrA22 := HR.keep hHeld.2.2 (KeepT.grown hN22 hga22) hba22 (by simp)
 refine st 10 fun K hK => ?_
 refine wp_appended _ _ _ _ rfl _ _ _ rfl rfl hra22 ?_
 refine hK.out _ _ ?_ (fun hHeld => ?_)
 ·exact ⟨kT b1 t hrA22 8, kT b1 t hrA22 9, hrA22⟩
 clear hK K
 try simp only [Act.put, List.setIfInBounds_toArray, List.set_cons_zero, List.set_cons_succ]
 refine tk 11 hHeld ?_
 refine wpAnyH_done (by kernel_rfl) (NoPanic.normal ?_) _
 have O5 : Hid (OwnB wa22 w.heap.size va22 (rh4 t)) := Lib.hid hOa22
 have H5 : Hid (HR w wa22 [(b1, (txC t), 37)]) := Lib.hid (hHeld.2.2)
 clear hHeld H4 O4 hOs hM21 hbM21 hr21 hN21 hra21 hOa21 hba21 hga21 hrA21 hM22 hbM22 hr22 hN22 hra22 hOa22 hba22 hga22 hrA22
 go_upto_region 5 with fail
 have hOs : OwnB wa22.drew w.heap.size va22 (rh4 t) := O5.out
 refine wp_region_noPanic ?_
 refine wp_region_held_drew (S := fun wq => wq.cell? ⟨b1, 10, none⟩ = some (.int .u64 t.m0) ∧ wq.cell? ⟨b1, 11, none⟩ = some (.int .u64 t.m1) ∧ HR w wq [(b1, (txC t), 37)]) (by kernel_rfl) ?_ (fun hHeld => ?_)
 ·have hq0 := HR.drew H5.out
  exact ⟨kT b1 t hq0 10, kT b1 t hq0 11, hq0⟩
 refine tk 0 hHeld ?_; refine tk 1 hHeld ?_; refine tk 2 hHeld ?_; refine tk 3 hHeld ?_; refine tk 6 hHeld ?_; refine tk 7 hHeld ?_; refine tk 8 hHeld ?_
 refine st 4 fun K hK => ?_
 go_simp
 refine (r2BytesO t.m0 hok.out.m00 hok.out.m01 _).mono ?_
 rintro e wb31 ⟨g31, c31, rfl, hM31, hbM31⟩
 have hr31 := HR.next hHeld.2.2 hbM31
 have hN31 := OwnB.below hOs hbM31
 refine hK.out _ _ ?_ (fun hHeld => ?_)
 ·exact ⟨kT b1 t hr31 10, kT b1 t hr31 11, hr31⟩
 clear hK K
 try simp only [Act.put, List.setIfInBounds_toArray, List.set_cons_zero, List.set_cons_succ]
 obtain ⟨va31, wa31, hra31, hOa31, hba31, hga31, -⟩ := append_ownB _ w.heap.size _ _ _ hN31 ⟨g31, 0, none⟩ _ c31 rfl (fun k hk => by rw [addB]; exact hM31.bl k hk) (by rw [(rh_len t).2.2.2.1]; show 64 + 8 ≤ 140737488355328; decide) (HR.far hHeld.2.2).2
 have hrA31 := HR.keep hHeld.2.2 (KeepT.grown hN31 hga31) hba31 (by simp)
 refine st 5 fun K hK => ?_
 refine wp_appended _ _ _ _ rfl _ _ _ rfl rfl hra31 ?_
 refine hK.out _ _ ?_ (fun hHeld => ?_)
 ·exact ⟨kT b1 t hrA31 10, kT b1 t hrA31 11, hrA31⟩
 clear hK K
 try simp only [Act.put, List.setIfInBounds_toArray, List.set_cons_zero, List.set_cons_succ]
 refine st 9 fun K hK => ?_
 go_simp
 refine (r2BytesO t.m1 hok.out.m10 hok.out.m11 _).mono ?_
 rintro e wb32 ⟨g32, c32, rfl, hM32, hbM32⟩
 have hr32 := HR.next hHeld.2.2 hbM32
 have hN32 := OwnB.below hOa31 hbM32
 refine hK.out _ _ ?_ (fun hHeld => ?_)
 ·exact ⟨kT b1 t hr32 10, kT b1 t hr32 11, hr32⟩
 clear hK K
 try simp only [Act.put, List.setIfInBounds_toArray, List.set_cons_zero, List.set_cons_succ]
 obtain ⟨va32, wa32, hra32, hOa32, hba32, hga32, -⟩ := append_ownB _ w.heap.size _ _ _ hN32 ⟨g32, 0, none⟩ _ c32 rfl (fun k hk => by rw [addB]; exact hM32.bl k hk) (by rw [List.length_append, (rh_len t).2.2.2.1]; show 64 + 8 + 8 ≤ 140737488355328; decide) (HR.far hHeld.2.2).2
 have hrA32 := HR.keep hHeld.2.2 (KeepT.grown hN32 hga32) hba32 (by simp)
 refine st 10 fun K hK => ?_
 refine wp_appended _ _ _ _ rfl _ _ _ rfl rfl hra32 ?_
 refine hK.out _ _ ?_ (fun hHeld => ?_)
 ·exact ⟨kT b1 t hrA32 10, kT b1 t hrA32 11, hrA32⟩
 clear hK K
 try simp only [Act.put, List.setIfInBounds_toArray, List.set_cons_zero, List.set_cons_succ]
 refine tk 11 hHeld ?_
 refine wpAnyH_done (by kernel_rfl) (NoPanic.normal ?_) _
 have O6 : Hid (OwnB wa32 w.heap.size va32 (rhd t L0 L1 0)) := Lib.hid hOa32
 have H6 : Hid (HR w wa32 [(b1, (txC t), 37)]) := Lib.hid (hHeld.2.2)
 clear hHeld H5 O5 hOs hM31 hbM31 hr31 hN31 hra31 hOa31 hba31 hga31 hrA31 hM32 hbM32 hr32 hN32 hra32 hOa32 hba32 hga32 hrA32
 go_upto_region 7 with fail
 go_loopw [3, 4] (fun q1 q2 wr => ∃ j : Nat, j ≤ 2 ∧ q2 = .int .i64 (j : Int) ∧ Hid (OwnB wr w.heap.size q1 (rhd t L0 L1 j)) ∧ Hid (HR w wr [(b1, (txC t), 37)])) (fun _ q2 _ => (2 - intOf q2).toNat)
 case atStart => exact ⟨0, by omega, rfl, O6, H6⟩
 case round =>
  clear O6 H6
  obtain ⟨j, hj, rfl, O9, H9⟩ := hrel
  rcases (by omega : j = 0 ∨ j = 1 ∨ j = 2) with rfl | rfl | rfl
  ·go_upto_region 9 with fail
   have hOs : OwnB wr.drew w.heap.size u3 (rhd t L0 L1 0) := O9.out
   refine wp_region_noPanic ?_
   refine wp_region_held_drew (S := fun wq => wq.cell? ⟨b1, 12, none⟩ = some (.int .u64 t.n0x) ∧ wq.cell? ⟨b1, 13, none⟩ = some (.int .u64 t.n0y) ∧ wq.cell? ⟨b1, 14, none⟩ = some (.slice t.s0 t.l0 t.c0) ∧ HR w wq [(b1, (txC t), 37)]) (by kernel_rfl) ?_ (fun hHeld => ?_)
   ·have hq0 := HR.drew H9.out
    exact ⟨kT b1 t hq0 12, kT b1 t hq0 13, kT b1 t hq0 14, hq0⟩
   refine tk 0 hHeld ?_; refine tk 1 hHeld ?_; refine tk 2 hHeld ?_; refine tk 3 hHeld ?_; refine tk 4 hHeld ?_; refine tk 5 hHeld ?_; refine tk 8 hHeld ?_; refine tk 9 hHeld ?_; refine tk 10 hHeld ?_; refine tk 11 hHeld ?_; refine tk 12 hHeld ?_
   refine st 6 fun K hK => ?_
   go_simp
   refine (r7BytesO t.n0x t.n0y hok.out.n0x0 hok.out.n0y0 hI.out.pn0 _).mono ?_
   rintro e wb41 ⟨g41, c41, rfl, hM41, hbM41⟩
   have hr41 := HR.next hHeld.2.2.2 hbM41
   have hN41 := OwnB.below hOs hbM41
   refine hK.out _ _ ?_ (fun hHeld => ?_)
   ·exact ⟨kT b1 t hr41 12, kT b1 t hr41 13, kT b1 t hr41 14, hr41⟩
   clear hK K
   try simp only [Act.put, List.setIfInBounds_toArray, List.set_cons_zero, List.set_cons_succ]
   obtain ⟨va41, wa41, hra41, hOa41, hba41, hga41, -⟩ := append_ownB _ w.heap.size _ _ _ hN41 ⟨g41, 0, none⟩ _ c41 rfl (fun k hk => by rw [addB]; exact hM41.bl k hk) (by rw [show rhd t L0 L1 0 = rh5 t from rfl, (rh_len t).2.2.2.2]; show 80 + 8 ≤ 140737488355328; decide) (HR.far hHeld.2.2.2).2
   have hrA41 := HR.keep hHeld.2.2.2 (KeepT.grown hN41 hga41) hba41 (by simp)
   refine st 7 fun K hK => ?_
   refine wp_appended _ _ _ _ rfl _ _ _ rfl rfl hra41 ?_
   refine hK.out _ _ ?_ (fun hHeld => ?_)
   ·exact ⟨kT b1 t hrA41 12, kT b1 t hrA41 13, kT b1 t hrA41 14, hrA41⟩
   clear hK K
   try simp only [Act.put, List.setIfInBounds_toArray, List.set_cons_zero, List.set_cons_succ]
   obtain ⟨va, wa, hra, hOa, hba, hga, -⟩ := append_ownS _ w.heap.size _ _ L0 hOa41 t.s0 t.l0 t.c0 hBo.out.n0 (fun h => by have := hBo.out.b0.no h; have := hBo.out.n0; omega) (fun h => by obtain ⟨b, o, e1, -, e3⟩ := (hBo.out.b0.below (hHeld.2.2.2).2).bl (by have := hBo.out.n0; omega); exact ⟨b, o, e1, e3⟩) (by rw [List.length_append, show rhd t L0 L1 0 = rh5 t from rfl, (rh_len t).2.2.2.2, hLn.out.1]; show 80 + 8 + 32 ≤ 140737488355328; decide) (HR.far hHeld.2.2.2).2
   have hrA := HR.keep hHeld.2.2.2 (KeepT.grown hOa41 hga) hba (by simp)
   refine st 13 fun K hK => ?_
   refine wp_appended _ _ _ _ rfl _ _ _ rfl rfl hra ?_
   refine hK.out _ _ ?_ (fun hHeld => ?_)
   ·exact ⟨kT b1 t hrA 12, kT b1 t hrA 13, kT b1 t hrA 14, hrA⟩
   clear hK K
   try simp only [Act.put, List.setIfInBounds_toArray, List.set_cons_zero, List.set_cons_succ]
   refine tk 14 hHeld ?_
   refine wpAnyH_done (by kernel_rfl) (NoPanic.normal ?_) _
   have HN : Hid (HR w wa [(b1, (txC t), 37)]) := Lib.hid hHeld.2.2.2
   have ON : Hid (OwnB wa w.heap.size va (rhd t L0 L1 1)) := Lib.hid hOa
   clear hHeld H9 O9 hOa hba hga hrA hra hOs hM41 hbM41 hr41 hN41 hra41 hOa41 hba41 hga41 hrA41
   go_wp2_with fail
   go_roundw
   case rel => exact ⟨1, by omega, rfl, ON, HN⟩
   case measure => simp [intOf]

  ·go_upto_region 9 with fail
   have hOs : OwnB wr.drew w.heap.size u3 (rhd t L0 L1 1) := O9.out
   refine wp_region_noPanic ?_
   refine wp_region_held_drew (S := fun wq => wq.cell? ⟨b1, 15, none⟩ = some (.int .u64 t.n1x) ∧ wq.cell? ⟨b1, 16, none⟩ = some (.int .u64 t.n1y) ∧ wq.cell? ⟨b1, 17, none⟩ = some (.slice t.s1 t.l1 t.c1) ∧ HR w wq [(b1, (txC t), 37)]) (by kernel_rfl) ?_ (fun hHeld => ?_)
   ·have hq0 := HR.drew H9.out
    exact ⟨kT b1 t hq0 15, kT b1 t hq0 16, kT b1 t hq0 17, hq0⟩
   refine tk 0 hHeld ?_; refine tk 1 hHeld ?_; refine tk 2 hHeld ?_; refine tk 3 hHeld ?_; refine tk 4 hHeld ?_; refine tk 5 hHeld ?_; refine tk 8 hHeld ?_; refine tk 9 hHeld ?_; refine tk 10 hHeld ?_; refine tk 11 hHeld ?_; refine tk 12 hHeld ?_
   refine st 6 fun K hK => ?_
   go_simp
   refine (r7BytesO t.n1x t.n1y hok.out.n1x0 hok.out.n1y0 hI.out.pn1 _).mono ?_
   rintro e wb41 ⟨g41, c41, rfl, hM41, hbM41⟩
   have hr41 := HR.next hHeld.2.2.2 hbM41
   have hN41 := OwnB.below hOs hbM41
   refine hK.out _ _ ?_ (fun hHeld => ?_)
   ·exact ⟨kT b1 t hr41 15, kT b1 t hr41 16, kT b1 t hr41 17, hr41⟩
   clear hK K
   try simp only [Act.put, List.setIfInBounds_toArray, List.set_cons_zero, List.set_cons_succ]
   obtain ⟨va41, wa41, hra41, hOa41, hba41, hga41, -⟩ := append_ownB _ w.heap.size _ _ _ hN41 ⟨g41, 0, none⟩ _ c41 rfl (fun k hk => by rw [addB]; exact hM41.bl k hk) (by rw [show rhd t L0 L1 1 = (rh5 t ++ edC t.n0x t.n0y) ++ L0 from rfl, List.length_append, List.length_append, (rh_len t).2.2.2.2, hLn.out.1]; show 80 + 8 + 32 + 8 ≤ 140737488355328; decide) (HR.far hHeld.2.2.2).2
   have hrA41 := HR.keep hHeld.2.2.2 (KeepT.grown hN41 hga41) hba41 (by simp)
   refine st 7 fun K hK => ?_
   refine wp_appended _ _ _ _ rfl _ _ _ rfl rfl hra41 ?_
   refine hK.out _ _ ?_ (fun hHeld => ?_)
   ·exact ⟨kT b1 t hrA41 15, kT b1 t hrA41 16, kT b1 t hrA41 17, hrA41⟩
   clear hK K
   try simp only [Act.put, List.setIfInBounds_toArray, List.set_cons_zero, List.set_cons_succ]
   obtain ⟨va, wa, hra, hOa, hba, hga, -⟩ := append_ownS _ w.heap.size _ _ L1 hOa41 t.s1 t.l1 t.c1 hBo.out.n1 (fun h => by have := hBo.out.b1.no h; have := hBo.out.n1; omega) (fun h => by obtain ⟨b, o, e1, -, e3⟩ := (hBo.out.b1.below (hHeld.2.2.2).2).bl (by have := hBo.out.n1; omega); exact ⟨b, o, e1, e3⟩) (by rw [List.length_append, show rhd t L0 L1 1 = (rh5 t ++ edC t.n0x t.n0y) ++ L0 from rfl, List.length_append, List.length_append, (rh_len t).2.2.2.2, hLn.out.1, hLn.out.2]; show 80 + 8 + 32 + 8 + 32 ≤ 140737488355328; decide) (HR.far hHeld.2.2.2).2
   have hrA := HR.keep hHeld.2.2.2 (KeepT.grown hOa41 hga) hba (by simp)
   refine st 13 fun K hK => ?_
   refine wp_appended _ _ _ _ rfl _ _ _ rfl rfl hra ?_
   refine hK.out _ _ ?_ (fun hHeld => ?_)
   ·exact ⟨kT b1 t hrA 15, kT b1 t hrA 16, kT b1 t hrA 17, hrA⟩
   clear hK K
   try simp only [Act.put, List.setIfInBounds_toArray, List.set_cons_zero, List.set_cons_succ]
   refine tk 14 hHeld ?_
   refine wpAnyH_done (by kernel_rfl) (NoPanic.normal ?_) _
   have HN : Hid (HR w wa [(b1, (txC t), 37)]) := Lib.hid hHeld.2.2.2
   have ON : Hid (OwnB wa w.heap.size va (rhd t L0 L1 2)) := Lib.hid hOa
   clear hHeld H9 O9 hOa hba hga hrA hra hOs hM41 hbM41 hr41 hN41 hra41 hOa41 hba41 hga41 hrA41
   go_wp2_with fail
   go_roundw
   case rel => exact ⟨2, by omega, rfl, ON, HN⟩
   case measure => simp [intOf]

  ·have hlen : (hd4 t L0 L1 2).length = 160 := hd4_len t hLn.out.1 hLn.out.2
   have hO := O9.out
   rw [rhd_hd4] at hO
   obtain ⟨g, c, cur, rfl, -, -, -, -, -, -⟩ := hO.size (by rw [hlen]; decide)
   rw [hlen] at hO
   have O := Lib.hid hO
   clear hO
   rw [hlen]
   replace hlen := Lib.hid hlen
   go_wp2_with fail
   go_ret
   exact ⟨g, c, rfl, O.out, H9.out.2⟩
def OwX (n : Nat) (M : List Nat) (w : World) (e : Ending) (w' : World) : Prop := ∃ g c, e = .returned (.slice (some ⟨g, 0, none⟩) n c) ∧ OwnB w' w.heap.size (.slice (some ⟨g, 0, none⟩) n c) M ∧ Below w.heap.size w w'
theorem OwX.own {n : Nat} {M : List Nat} (hn : M.length = n) {w : World} {e : Ending} {w' : World} (h : OwX n M w e w') : OwI M w e w' := by subst hn; exact h
theorem bod_len (t : TxD) {L0 L1 : List Nat} (h0 : L0.length = 32) (h1 : L1.length = 32) : (rbo t L0 L1).length ≤ 227 := by rw [rbo_bod]; exact bodL_len t h0 h1
theorem rh160 (t : TxD) {L0 L1 : List Nat} (h0 : L0.length = 32) (h1 : L1.length = 32) (w : World) (e : Ending) (w' : World) (h : ∃ g c, e = .returned (.slice (some ⟨g, 0, none⟩) 160 c) ∧ OwnB w' w.heap.size (.slice (some ⟨g, 0, none⟩) 160 c) (hd4 t L0 L1 2) ∧ Below w.heap.size w w') : OwI (hd4 t L0 L1 2) w e w' := OwX.own (hd4_len t h0 h1) h
set_option maxRecDepth 100000 in
set_option maxHeartbeats 100000000 in
theorem r19Body (t : TxD) (L0 L1 : List Nat) (h : TxOk t) (m : MayI t) (w : World) (hB : Bods t L0 L1 w.heap.size w) :
  Calls Tryz.prog 15 #[txV t] w (OwI (bodL t L0 L1) w) := by
 have hok := Lib.hid h
 have hI := Lib.hid m
 have hBo := Lib.hid hB
 have hLn : Hid (L0.length = 32 ∧ L1.length = 32) := Lib.hid ⟨hB.n0.trans m.l0, hB.n1.trans m.l1⟩
 have cH := Lib.hid (fun W (hb : Below w.heap.size w W) => (r19Head t L0 L1 h m.head W (hB.at hb)).mono fun e w' => rh160 t (hB.n0.trans m.l0) (hB.n1.trans m.l1) W e w')
 have h160 := Lib.hid (hd4_len t (hB.n0.trans m.l0) (hB.n1.trans m.l1))
 clear h m hB
 go_enter Tryz.func15, Tryz.ntmps15
 go_upto_region 1 with fail
 have H1 := Lib.hid ((HR.refl w).new (txC t) 37)
 generalize w.alloc (.cells (txC t) 37) = w2 at H1 ⊢
 generalize hb1 : w.heap.size = b1 at H1 ⊢
 have hbs : Hid (w.heap.size = b1) := Lib.hid hb1
 clear hb1
 have und := Tryz.underlying37
 refine wp_region_noPanic ?_
 refine wp_region_held_drew (S := fun wq => wq.cell? ⟨b1, 18, none⟩ = some (.int .u64 t.a0) ∧ wq.cell? ⟨b1, 19, none⟩ = some (.int .u64 t.a1) ∧ HR w wq [(b1, (txC t), 37)]) (by kernel_rfl) ?_ (fun hHeld => ?_)
 ·have hq0 := HR.drew H1.out
  exact ⟨kT b1 t hq0 18, kT b1 t hq0 19, hq0⟩
 refine takeH 0 (fun _ _ _ _ _ h => h) (by kernel_rfl) hHeld rfl (by kernel_rfl) (by rfl) (v := .agg (txC t)) ?_ ?_
 ·intro wz hz
  exact exec_load 37 _ rfl b1 rfl 37 (txC t) (0, 0) _ (hz.2.2.row (b := b1) (cs := (txC t)) (t := 37) (by simp)) und rfl sizTX
 try simp only [Act.put, List.setIfInBounds_toArray, List.set_cons_zero, List.set_cons_succ]
 refine tk 2 hHeld ?_; refine tk 3 hHeld ?_; refine tk 4 hHeld ?_; refine tk 7 hHeld ?_; refine tk 8 hHeld ?_; refine tk 9 hHeld ?_
 refine st 1 fun K hK => ?_
 go_simp
 refine (cH.out _ (hHeld.2.2).2).mono ?_
 rintro e wb1 ⟨g1, c1, rfl, hM1, hbM1⟩
 have hr1 := HR.next hHeld.2.2 hbM1
 have hN1 := hM1.base (HR.far hHeld.2.2).2
 refine hK.out _ _ ?_ (fun hHeld => ?_)
 ·exact ⟨kT b1 t hr1 18, kT b1 t hr1 19, hr1⟩
 clear hK K
 try simp only [Act.put, List.setIfInBounds_toArray, List.set_cons_zero, List.set_cons_succ]
 refine st 5 fun K hK => ?_
 go_simp
 refine (r2BytesO t.a0 hok.out.a00 hok.out.a01 _).mono ?_
 rintro e wb2 ⟨g2, c2, rfl, hM2, hbM2⟩
 have hr2 := HR.next hHeld.2.2 hbM2
 have hN2 := OwnB.below hN1 hbM2
 refine hK.out _ _ ?_ (fun hHeld => ?_)
 ·exact ⟨kT b1 t hr2 18, kT b1 t hr2 19, hr2⟩
 clear hK K
 try simp only [Act.put, List.setIfInBounds_toArray, List.set_cons_zero, List.set_cons_succ]
 obtain ⟨va2, wa2, hra2, hOa2, hba2, hga2, -⟩ := append_ownB _ w.heap.size _ _ _ hN2 ⟨g2, 0, none⟩ _ c2 rfl (fun k hk => by rw [addB]; exact hM2.bl k hk) (by rw [h160.out]; show 160 + 8 ≤ 140737488355328; decide) (HR.far hHeld.2.2).2
 have hrA2 := HR.keep hHeld.2.2 (KeepT.grown hN2 hga2) hba2 (by simp)
 refine st 6 fun K hK => ?_
 refine wp_appended _ _ _ _ rfl _ _ _ rfl rfl hra2 ?_
 refine hK.out _ _ ?_ (fun hHeld => ?_)
 ·exact ⟨kT b1 t hrA2 18, kT b1 t hrA2 19, hrA2⟩
 clear hK K
 try simp only [Act.put, List.setIfInBounds_toArray, List.set_cons_zero, List.set_cons_succ]
 refine st 10 fun K hK => ?_
 go_simp
 refine (r2BytesO t.a1 hok.out.a10 hok.out.a11 _).mono ?_
 rintro e wb3 ⟨g3, c3, rfl, hM3, hbM3⟩
 have hr3 := HR.next hHeld.2.2 hbM3
 have hN3 := OwnB.below hOa2 hbM3
 refine hK.out _ _ ?_ (fun hHeld => ?_)
 ·exact ⟨kT b1 t hr3 18, kT b1 t hr3 19, hr3⟩
 clear hK K
 try simp only [Act.put, List.setIfInBounds_toArray, List.set_cons_zero, List.set_cons_succ]
 obtain ⟨va3, wa3, hra3, hOa3, hba3, hga3, -⟩ := append_ownB _ w.heap.size _ _ _ hN3 ⟨g3, 0, none⟩ _ c3 rfl (fun k hk => by rw [addB]; exact hM3.bl k hk) (by rw [List.length_append, h160.out]; show 160 + 8 + 8 ≤ 140737488355328; decide) (HR.far hHeld.2.2).2
 have hrA3 := HR.keep hHeld.2.2 (KeepT.grown hN3 hga3) hba3 (by simp)
 refine st 11 fun K hK => ?_
 refine wp_appended _ _ _ _ rfl _ _ _ rfl rfl hra3 ?_
 refine hK.out _ _ ?_ (fun hHeld => ?_)
 ·exact ⟨kT b1 t hrA3 18, kT b1 t hrA3 19, hrA3⟩
 clear hK K
 try simp only [Act.put, List.setIfInBounds_toArray, List.set_cons_zero, List.set_cons_succ]
 refine tk 12 hHeld ?_
 refine wpAnyH_done (by kernel_rfl) (NoPanic.normal ?_) _
 have O2 : Hid (OwnB wa3 w.heap.size va3 ((hd4 t L0 L1 2 ++ Obol.be8 t.a0.toNat) ++ Obol.be8 t.a1.toNat)) := Lib.hid hOa3
 have H2 : Hid (HR w wa3 [(b1, (txC t), 37)]) := Lib.hid (hHeld.2.2)
 clear hHeld H1 hM1 hbM1 hr1 hN1 hM2 hbM2 hr2 hN2 hra2 hOa2 hba2 hga2 hrA2 hM3 hbM3 hr3 hN3 hra3 hOa3 hba3 hga3 hrA3
 go_upto_region 2 with fail
 have hOs : OwnB wa3.drew w.heap.size va3 (((hd4 t L0 L1 2 ++ Obol.be8 t.a0.toNat) ++ Obol.be8 t.a1.toNat)) := O2.out
 refine wp_region_noPanic ?_
 refine wp_region_held_drew (S := fun wq => wq.cell? ⟨b1, 20, none⟩ = some (.bool t.ia) ∧ wq.cell? ⟨b1, 21, none⟩ = some (.int .u64 t.xa) ∧ wq.cell? ⟨b1, 22, none⟩ = some (.int .u64 t.ya) ∧ wq.cell? ⟨b1, 23, none⟩ = some (.bool t.ib) ∧ wq.cell? ⟨b1, 24, none⟩ = some (.int .u64 t.xb) ∧ wq.cell? ⟨b1, 25, none⟩ = some (.int .u64 t.yb) ∧ HR w wq [(b1, (txC t), 37)]) (by kernel_rfl) ?_ (fun hHeld => ?_)
 ·have hq0 := HR.drew H2.out
  exact ⟨kT b1 t hq0 20, kT b1 t hq0 21, kT b1 t hq0 22, kT b1 t hq0 23, kT b1 t hq0 24, kT b1 t hq0 25, hq0⟩
 refine tk 0 hHeld ?_; refine tk 1 hHeld ?_; refine tk 2 hHeld ?_; refine tk 3 hHeld ?_; refine tk 6 hHeld ?_; refine tk 7 hHeld ?_; refine tk 8 hHeld ?_
 refine st 4 fun K hK => ?_
 go_simp
 refine (r3BytesO t.ia t.xa t.ya hok.out.xa0 hok.out.ya0 hok.out.xa1 hok.out.ya1 hI.out.pa _).mono ?_
 rintro e wb11 ⟨g11, c11, rfl, hM11, hbM11⟩
 have hr11 := HR.next hHeld.2.2.2.2.2.2 hbM11
 have hN11 := OwnB.below hOs hbM11
 refine hK.out _ _ ?_ (fun hHeld => ?_)
 ·exact ⟨kT b1 t hr11 20, kT b1 t hr11 21, kT b1 t hr11 22, kT b1 t hr11 23, kT b1 t hr11 24, kT b1 t hr11 25, hr11⟩
 clear hK K
 try simp only [Act.put, List.setIfInBounds_toArray, List.set_cons_zero, List.set_cons_succ]
 obtain ⟨va11, wa11, hra11, hOa11, hba11, hga11, -⟩ := append_ownB _ w.heap.size _ _ _ hN11 ⟨g11, 0, none⟩ _ c11 rfl (fun k hk => by rw [addB]; exact hM11.bl k hk) (by have h1 := h160.out; have h2 := (ptL_pos t.ia t.xa.toNat t.ya.toNat).2; have h3 := (ptL_pos t.ib t.xb.toNat t.yb.toNat).2; simp only [List.length_append, be8_l, h1]; omega) (HR.far hHeld.2.2.2.2.2.2).2
 have hrA11 := HR.keep hHeld.2.2.2.2.2.2 (KeepT.grown hN11 hga11) hba11 (by simp)
 refine st 5 fun K hK => ?_
 refine wp_appended _ _ _ _ rfl _ _ _ rfl rfl hra11 ?_
 refine hK.out _ _ ?_ (fun hHeld => ?_)
 ·exact ⟨kT b1 t hrA11 20, kT b1 t hrA11 21, kT b1 t hrA11 22, kT b1 t hrA11 23, kT b1 t hrA11 24, kT b1 t hrA11 25, hrA11⟩
 clear hK K
 try simp only [Act.put, List.setIfInBounds_toArray, List.set_cons_zero, List.set_cons_succ]
 refine st 9 fun K hK => ?_
 go_simp
 refine (r3BytesO t.ib t.xb t.yb hok.out.xb0 hok.out.yb0 hok.out.xb1 hok.out.yb1 hI.out.pb _).mono ?_
 rintro e wb12 ⟨g12, c12, rfl, hM12, hbM12⟩
 have hr12 := HR.next hHeld.2.2.2.2.2.2 hbM12
 have hN12 := OwnB.below hOa11 hbM12
 refine hK.out _ _ ?_ (fun hHeld => ?_)
 ·exact ⟨kT b1 t hr12 20, kT b1 t hr12 21, kT b1 t hr12 22, kT b1 t hr12 23, kT b1 t hr12 24, kT b1 t hr12 25, hr12⟩
 clear hK K
 try simp only [Act.put, List.setIfInBounds_toArray, List.set_cons_zero, List.set_cons_succ]
 obtain ⟨va12, wa12, hra12, hOa12, hba12, hga12, -⟩ := append_ownB _ w.heap.size _ _ _ hN12 ⟨g12, 0, none⟩ _ c12 rfl (fun k hk => by rw [addB]; exact hM12.bl k hk) (by have h1 := h160.out; have h2 := (ptL_pos t.ia t.xa.toNat t.ya.toNat).2; have h3 := (ptL_pos t.ib t.xb.toNat t.yb.toNat).2; simp only [List.length_append, be8_l, h1]; omega) (HR.far hHeld.2.2.2.2.2.2).2
 have hrA12 := HR.keep hHeld.2.2.2.2.2.2 (KeepT.grown hN12 hga12) hba12 (by simp)
 refine st 10 fun K hK => ?_
 refine wp_appended _ _ _ _ rfl _ _ _ rfl rfl hra12 ?_
 refine hK.out _ _ ?_ (fun hHeld => ?_)
 ·exact ⟨kT b1 t hrA12 20, kT b1 t hrA12 21, kT b1 t hrA12 22, kT b1 t hrA12 23, kT b1 t hrA12 24, kT b1 t hrA12 25, hrA12⟩
 clear hK K
 try simp only [Act.put, List.setIfInBounds_toArray, List.set_cons_zero, List.set_cons_succ]
 refine tk 11 hHeld ?_
 refine wpAnyH_done (by kernel_rfl) (NoPanic.normal ?_) _
 have O3 : Hid (OwnB wa12 w.heap.size va12 ((((hd4 t L0 L1 2 ++ Obol.be8 t.a0.toNat) ++ Obol.be8 t.a1.toNat) ++ Obol.ptL t.ia t.xa.toNat t.ya.toNat) ++ Obol.ptL t.ib t.xb.toNat t.yb.toNat)) := Lib.hid hOa12
 have H3 : Hid (HR w wa12 [(b1, (txC t), 37)]) := Lib.hid (hHeld.2.2.2.2.2.2)
 clear hHeld H2 O2 hOs hM11 hbM11 hr11 hN11 hra11 hOa11 hba11 hga11 hrA11 hM12 hbM12 hr12 hN12 hra12 hOa12 hba12 hga12 hrA12
 have k_ic := kT b1 t H3.out 26
 have k_xc := kT b1 t H3.out 27
 have k_yc := kT b1 t H3.out 28
 have cC := Lib.hid (fun W => r3BytesO t.ic t.xc t.yc hok.out.xc0 hok.out.yc0 hok.out.xc1 hok.out.yc1 hI.out.pc W)
 go_wp2_with fail
 refine (cC.out _).mono ?_
 rintro e w5 ⟨g5, c5, rfl, hM5, hb5⟩
 have hN5 := O3.out.below hb5
 have hr5 := H3.out.next hb5
 obtain ⟨v6, w6, hra, hOa, hba, -, -⟩ := append_ownB w5 w.heap.size _ _ _ hN5 ⟨g5, 0, none⟩ _ c5 rfl (fun k hk => by rw [addB]; exact hM5.bl k hk) (by have h1 := h160.out; have h2 := (ptL_pos t.ia t.xa.toNat t.ya.toNat).2; have h3 := (ptL_pos t.ib t.xb.toNat t.yb.toNat).2; have h4 := (ptL_pos t.ic t.xc.toNat t.yc.toNat).2; simp only [List.length_append, be8_l, h1]; omega) hr5.2.size
 have B6 := Lib.hid (hr5.2.trans hba)
 have hO6 : OwnB w6 w.heap.size v6 (bodL t L0 L1) := by rw [← rbo_bod]; exact hOa
 obtain ⟨g6, c6, cur6, rfl, -, -, -, -, -, -⟩ := hO6.size (by have h1 := h160.out; unfold bodL; simp only [List.length_append, h1]; omega)
 have O6 := Lib.hid hO6
 clear k_ic k_xc k_yc
 clear hM5 hb5 hN5 hr5 hOa hba O3 H3 cC hO6
 go_wp2_with (at_builtin; refine wpList_appended rfl _ _ _ _ rfl _ _ _ rfl rfl hra ?_)
 go_ret
 exact ⟨g6, c6, rfl, O6.out, B6.out⟩
end Go.Proofs.YtkfimfjjmdjbdaaGreatDoor
