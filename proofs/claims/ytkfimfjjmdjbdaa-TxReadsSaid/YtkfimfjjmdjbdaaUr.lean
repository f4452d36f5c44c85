import Derived.Test.YtkfimfjjmdjbdaaUq
import Derived.Test.YtkfimfjjmdjbdaaUp
import Derived.Test.YtkfimfjjmdjbdaaUg
set_option linter.unusedVariables false
set_option linter.unusedSimpArgs false
set_option linter.unusedSectionVars false
/- Plain law: layer 19: the program's reader and the reference's find the same. -/
namespace Obol
theorem fN {L : List Nat} {k n : Nat} {s s' : Rs} (hs : s = (false, L.drop k)) (e : tkS n s = s') (h : k + n ≤ L.length) : s' = (false, L.drop (k + n)) ∧ tkM n s = (L.drop k).take n := by
  subst hs e
  have hb : tkB n (false, L.drop k) = false := by
    unfold tkB
    simp only [Bool.false_or, decide_eq_false_iff_not, List.length_drop]
    omega
  unfold tkS tkM
  rw [if_neg (by rw [hb]; simp), if_neg (by rw [hb]; simp)]
  simp only [List.drop_drop, and_self]
theorem gN {L : List Nat} {k n : Nat} {s s' : Rs} (hs : s = (false, L.drop k)) (e : tkS n s = s') (g : s'.1 = false) (hn : 0 < n) : k + n ≤ L.length := by
  subst hs e
  by_cases hk : k + n ≤ L.length
  · exact hk
  · have hb : tkB n (false, L.drop k) = true := by
      unfold tkB
      simp only [Bool.false_or, decide_eq_true_eq, List.length_drop]
      omega
    unfold tkS at g
    rw [if_pos hb] at g
    cases g
theorem fP {L : List Nat} {k : Nat} {s s' : Rs} {p : Nat × Nat} (hs : s = (false, L.drop k)) (e : ptS s = s') (h : k + 8 ≤ L.length) (hr : readN (num8 ((L.drop k).take 8)) = some p) : s' = (false, L.drop (k + 8)) ∧ ptP s = p := by
  have a := fN hs (rfl : tkS 8 s = tkS 8 s) h
  have hr2 : readN (rdN s) = some p := by unfold rdN; rw [a.2]; exact hr
  refine ⟨?_, by unfold ptP; rw [hr2]⟩
  rw [← e]
  unfold ptS
  rw [hr2]
  exact a.1
theorem gP {L : List Nat} {k : Nat} {s s' : Rs} (hs : s = (false, L.drop k)) (e : ptS s = s') (g : s'.1 = false) : k + 8 ≤ L.length ∧ (∃ p, readN (num8 ((L.drop k).take 8)) = some p) ∧ s' = (false, L.drop (k + 8)) := by
  subst e
  obtain ⟨_, h2, h3⟩ := ptS_ok g
  have hk : k + 8 ≤ L.length := by
    have := congrArg List.length h2
    rw [List.length_append, tkM_len, hs] at this
    simp only [List.length_drop] at this
    omega
  have a := fN hs (rfl : tkS 8 s = tkS 8 s) hk
  have h4 : readN (num8 ((L.drop k).take 8)) = some (ptP s) := by rw [← a.2]; exact h3
  exact ⟨hk, ⟨_, h4⟩, (fP hs rfl hk h4).1⟩
theorem kF {L : List Nat} {k : Nat} {s : Rs} (hs : s = (false, L.drop k)) : pfK s = (if L.getD k 0 = 1 then 17 else 1) := by
  subst hs
  unfold pfK
  show (if 0 < (L.drop k).length ∧ (L.drop k).getD 0 0 = 1 then 17 else 1) = _
  rw [gd_drop, Nat.add_zero, List.length_drop]
  by_cases h : L.getD k 0 = 1
  · have hk : k < L.length := by
      by_cases hk : k < L.length
      · exact hk
      · rw [List.getD_eq_getElem?_getD, List.getElem?_eq_none (by omega)] at h
        cases h
    rw [if_pos ⟨by omega, h⟩, if_pos h]
  · rw [if_neg (fun g => h g.2), if_neg h]
theorem fF {L : List Nat} {k n : Nat} {s s' : Rs} {p : Bool × Nat × Nat} (hs : s = (false, L.drop k)) (e : pfS s = s') (hn : (if L.getD k 0 = 1 then 17 else 1) = n) (h : k + n ≤ L.length) (hr : crd ((L.drop k).take n) = some p) : s' = (false, L.drop (k + n)) ∧ pfP s = p := by
  have a := fN hs (rfl : tkS n s = tkS n s) h
  have hk : pfK s = n := (kF hs).trans hn
  have hr2 : crd (tkM (pfK s) s) = some p := by rw [hk, a.2]; exact hr
  obtain ⟨b1, b2⟩ := pfS_of hr2
  refine ⟨?_, b2⟩
  rw [← e, b1, hk]
  exact a.1
theorem gF {L : List Nat} {k n : Nat} {s s' : Rs} (hs : s = (false, L.drop k)) (e : pfS s = s') (hn : (if L.getD k 0 = 1 then 17 else 1) = n) (g : s'.1 = false) : k + n ≤ L.length ∧ (∃ p, crd ((L.drop k).take n) = some p) ∧ s' = (false, L.drop (k + n)) := by
  subst e
  obtain ⟨_, h2, h3⟩ := pfS_ok g
  have hk : pfK s = n := (kF hs).trans hn
  have hl : k + n ≤ L.length := by
    have := congrArg List.length h2
    rw [List.length_append, tkM_len, hs] at this
    simp only [List.length_drop] at this
    rw [hs] at hk
    rw [hk] at this
    have hn0 : 0 < n := by rw [← hn]; split <;> omega
    omega
  have a := fN hs (rfl : tkS n s = tkS n s) hl
  have h4 : crd ((L.drop k).take n) = some (pfP s) := by rw [← a.2, ← hk]; exact h3
  exact ⟨hl, ⟨_, h4⟩, (fF hs rfl hn hl h4).1⟩
theorem ndN {n : Nat} {s s' : Rs} (e : tkS n s = s') (g : s'.1 = false) : s.1 = false := by subst e; exact (tkS_ok g).1
theorem ndP {s s' : Rs} (e : ptS s = s') (g : s'.1 = false) : s.1 = false := by subst e; exact (ptS_ok g).1
theorem ndF {s s' : Rs} (e : pfS s = s') (g : s'.1 = false) : s.1 = false := by subst e; exact (pfS_ok g).1
end Obol
namespace Go.Proofs.Ytkfimfjjmdjbdaa
open Go.RowKit
/-- A point that a number tells. -/
def PtO (n : Nat) (X Y : Int) : Prop := 0 ≤ X ∧ 0 ≤ Y ∧ Obol.readN n = some (X.toNat, Y.toNat)
/-- A point of the curve that bytes tell. -/
def CtO (M : List Nat) (i : Bool) (X Y : Int) : Prop := 0 ≤ X ∧ 0 ≤ Y ∧ Obol.crd M = some (i, X.toNat, Y.toNat)
/-- What the reference finds in bytes where all is well. -/
structure RrA (L : List Nat) (t : TxD) : Prop where
  root : ((numAt L 0 : Nat) : Int) = t.root
  inn : ((numAt L 8 : Nat) : Int) = t.inn
  out : ((numAt L 16 : Nat) : Int) = t.out
  fx : PtO (numAt L 24) t.fx t.fy
  tx : PtO (numAt L 32) t.tx t.ty
  seq : ((numAt L 40 : Nat) : Int) = t.seq
  e0 : ((numAt L 48 : Nat) : Int) = t.e0
  e1 : ((numAt L 56 : Nat) : Int) = t.e1
  m0 : ((numAt L 64 : Nat) : Int) = t.m0
  m1 : ((numAt L 72 : Nat) : Int) = t.m1
  n0x : PtO (numAt L 80) t.n0x t.n0y
  n1x : PtO (numAt L 120) t.n1x t.n1y
  a0 : ((numAt L 160 : Nat) : Int) = t.a0
  a1 : ((numAt L 168 : Nat) : Int) = t.a1
  ia : CtO (ptB L 0) t.ia t.xa t.ya
  ib : CtO (ptB L 1) t.ib t.xb t.yb
  ic : CtO (ptB L 2) t.ic t.xc t.yc
  gx : PtO (numAt L (posL L 3)) t.gx t.gy
  gz : ((numAt L (posL L 3 + 8) : Nat) : Int) = t.gz
/-- All that must be a point is one. -/
def RrW (L : List Nat) : Prop := (∃ p, Obol.readN (numAt L 24) = some p) ∧ (∃ p, Obol.readN (numAt L 32) = some p) ∧ (∃ p, Obol.readN (numAt L 80) = some p) ∧ (∃ p, Obol.readN (numAt L 120) = some p) ∧ (∃ p, Obol.crd (ptB L 0) = some p) ∧ (∃ p, Obol.crd (ptB L 1) = some p) ∧ (∃ p, Obol.crd (ptB L 2) = some p) ∧ (∃ p, Obol.readN (numAt L (posL L 3)) = some p)
theorem CrO.ct {M : List Nat} {i : Bool} {X Y : Int} (h : CrO M i X Y true) : CtO M i X Y := h.1 rfl
theorem FdO.pt {n : Nat} {X Y : Int} (h : FdO n X Y true) : PtO n X Y := h.1 rfl
theorem numAt_eq {L : List Nat} {k : Nat} {s : Obol.Rs} (h : Obol.tkM 8 s = (L.drop k).take 8) : Obol.rdN s = numAt L k := by
  unfold Obol.rdN numAt
  rw [h]
theorem PtO.eq {n : Nat} {X Y : Int} {p : Nat × Nat} (h : PtO n X Y) (hp : p = (X.toNat, Y.toNat)) : ((p.1 : Nat) : Int) = X ∧ ((p.2 : Nat) : Int) = Y := by
  subst hp
  exact ⟨Int.toNat_of_nonneg h.1, Int.toNat_of_nonneg h.2.1⟩
theorem CtO.eq {M : List Nat} {i : Bool} {X Y : Int} {p : Bool × Nat × Nat} (h : CtO M i X Y) (hp : p = (i, X.toNat, Y.toNat)) : p.1 = i ∧ ((p.2.1 : Nat) : Int) = X ∧ ((p.2.2 : Nat) : Int) = Y := by
  subst hp
  exact ⟨rfl, Int.toNat_of_nonneg h.1, Int.toNat_of_nonneg h.2.1⟩
theorem posL_next (L : List Nat) (j n : Nat) (h : (if L.getD (posL L j) 0 = 1 then 17 else 1) = n) : posL L (j + 1) = posL L j + n := by
  rw [← h]
  rfl
theorem ptB_eq (L : List Nat) (j n : Nat) (h : (if L.getD (posL L j) 0 = 1 then 17 else 1) = n) : ptB L j = (L.drop (posL L j)).take n := by
  unfold ptB
  rw [posL_next L j n h, Nat.add_sub_cancel_left]
set_option maxHeartbeats 4000000 in
/-- Where all is well, the reader finds the same. -/
theorem rr_good {L : List Nat} {u t : TxD} {M0 M1 : List Nat} {z : Obol.Rs} (h : RdC L u M0 M1 z) (hl : posL L 3 + 16 ≤ L.length) (ht : RrA L t) : z = (false, L.drop (posL L 3 + 16)) ∧ Alike u t ∧ M0 = (L.drop 88).take 32 ∧ M1 = (L.drop 128).take 32 := by
  obtain ⟨s0, s1, s2, s3, s4, s5, s6, s7, s8, s9, s10, s11, s12, s13, s14, s15, s16, s17, s18, s19, hs0, hs1, hs2, hs3, hs4, hs5, hs6, hs7, hs8, hs9, hs10, hs11, hs12, hs13, hs14, hs15, hs16, hs17, hs18, hs19, hz, hM0, hM1, v_root, v_inn, v_out, v_fx, v_fy, v_tx, v_ty, v_seq, v_e0, v_e1, v_m0, v_m1, v_n0x, v_n0y, v_n1x, v_n1y, v_a0, v_a1, v_ia, v_xa, v_ya, v_ib, v_xb, v_yb, v_ic, v_xc, v_yc, v_gx, v_gy, v_gz⟩ := h
  have hp3 := posL_le L 3
  have q0 : posL L 0 = 176 := rfl
  obtain ⟨k0, hk0⟩ : ∃ n, (if L.getD (posL L 0) 0 = 1 then 17 else 1) = n := ⟨_, rfl⟩
  obtain ⟨k1, hk1⟩ : ∃ n, (if L.getD (posL L 1) 0 = 1 then 17 else 1) = n := ⟨_, rfl⟩
  obtain ⟨k2, hk2⟩ : ∃ n, (if L.getD (posL L 2) 0 = 1 then 17 else 1) = n := ⟨_, rfl⟩
  have q1 : posL L 1 = posL L 0 + k0 := posL_next L 0 k0 hk0
  have q2 : posL L 2 = posL L 1 + k1 := posL_next L 1 k1 hk1
  have q3 : posL L 3 = posL L 2 + k2 := posL_next L 2 k2 hk2
  have z0 : s0 = (false, L.drop 0) := hs0.symm
  have a0 := Obol.fN z0 hs1 (by omega)
  have z1 := a0.1
  have a1 := Obol.fN z1 hs2 (by omega)
  have z2 := a1.1
  have a2 := Obol.fN z2 hs3 (by omega)
  have z3 := a2.1
  have a3 := Obol.fP z3 hs4 (by omega) ht.fx.2.2
  have z4 := a3.1
  have a4 := Obol.fP z4 hs5 (by omega) ht.tx.2.2
  have z5 := a4.1
  have a5 := Obol.fN z5 hs6 (by omega)
  have z6 := a5.1
  have a6 := Obol.fN z6 hs7 (by omega)
  have z7 := a6.1
  have a7 := Obol.fN z7 hs8 (by omega)
  have z8 := a7.1
  have a8 := Obol.fN z8 hs9 (by omega)
  have z9 := a8.1
  have a9 := Obol.fN z9 hs10 (by omega)
  have z10 := a9.1
  have a10 := Obol.fP z10 hs11 (by omega) ht.n0x.2.2
  have z11 := a10.1
  have a11 := Obol.fN z11 hs12 (by omega)
  have z12 := a11.1
  have a12 := Obol.fP z12 hs13 (by omega) ht.n1x.2.2
  have z13 := a12.1
  have a13 := Obol.fN z13 hs14 (by omega)
  have z14 := a13.1
  have a14 := Obol.fN z14 hs15 (by omega)
  have z15 := a14.1
  have a15 := Obol.fN z15 hs16 (by omega)
  have z16 := a15.1
  have y0 : Obol.pfN s16 0 = (false, L.drop (posL L 0)) := z16
  have c0 := ht.ia.2.2
  rw [ptB_eq L 0 k0 hk0] at c0
  have d0 := Obol.fF y0 (rfl : Obol.pfS (Obol.pfN s16 0) = Obol.pfN s16 1) hk0 (by omega) c0
  have y1 := d0.1
  rw [← q1] at y1
  have c1 := ht.ib.2.2
  rw [ptB_eq L 1 k1 hk1] at c1
  have d1 := Obol.fF y1 (rfl : Obol.pfS (Obol.pfN s16 1) = Obol.pfN s16 2) hk1 (by omega) c1
  have y2 := d1.1
  rw [← q2] at y2
  have c2 := ht.ic.2.2
  rw [ptB_eq L 2 k2 hk2] at c2
  have d2 := Obol.fF y2 (rfl : Obol.pfS (Obol.pfN s16 2) = Obol.pfN s16 3) hk2 (by omega) c2
  have y3 := d2.1
  rw [← q3] at y3
  have z17 : s17 = (false, L.drop (posL L 3)) := hs17.symm.trans y3
  have a17 := Obol.fP z17 hs18 (by omega) ht.gx.2.2
  have z18 := a17.1
  have a18 := Obol.fN z18 hs19 (by omega)
  have z19 := a18.1
  refine ⟨by rw [← hz]; exact z19, ⟨(by rw [← v_root, numAt_eq a0.2]; exact ht.root), (by rw [← v_inn, numAt_eq a1.2]; exact ht.inn), (by rw [← v_out, numAt_eq a2.2]; exact ht.out), (by rw [← v_fx]; exact (ht.fx.eq a3.2).1), (by rw [← v_fy]; exact (ht.fx.eq a3.2).2), (by rw [← v_tx]; exact (ht.tx.eq a4.2).1), (by rw [← v_ty]; exact (ht.tx.eq a4.2).2), (by rw [← v_seq, numAt_eq a5.2]; exact ht.seq), (by rw [← v_e0, numAt_eq a6.2]; exact ht.e0), (by rw [← v_e1, numAt_eq a7.2]; exact ht.e1), (by rw [← v_m0, numAt_eq a8.2]; exact ht.m0), (by rw [← v_m1, numAt_eq a9.2]; exact ht.m1), (by rw [← v_n0x]; exact (ht.n0x.eq a10.2).1), (by rw [← v_n0y]; exact (ht.n0x.eq a10.2).2), (by rw [← v_n1x]; exact (ht.n1x.eq a12.2).1), (by rw [← v_n1y]; exact (ht.n1x.eq a12.2).2), (by rw [← v_a0, numAt_eq a14.2]; exact ht.a0), (by rw [← v_a1, numAt_eq a15.2]; exact ht.a1), (by rw [← v_ia, Obol.pfV_at s16 0 (by decide)]; exact (ht.ia.eq d0.2).1), (by rw [← v_xa, Obol.pfV_at s16 0 (by decide)]; exact (ht.ia.eq d0.2).2.1), (by rw [← v_ya, Obol.pfV_at s16 0 (by decide)]; exact (ht.ia.eq d0.2).2.2), (by rw [← v_ib, Obol.pfV_at s16 1 (by decide)]; exact (ht.ib.eq d1.2).1), (by rw [← v_xb, Obol.pfV_at s16 1 (by decide)]; exact (ht.ib.eq d1.2).2.1), (by rw [← v_yb, Obol.pfV_at s16 1 (by decide)]; exact (ht.ib.eq d1.2).2.2), (by rw [← v_ic, Obol.pfV_at s16 2 (by decide)]; exact (ht.ic.eq d2.2).1), (by rw [← v_xc, Obol.pfV_at s16 2 (by decide)]; exact (ht.ic.eq d2.2).2.1), (by rw [← v_yc, Obol.pfV_at s16 2 (by decide)]; exact (ht.ic.eq d2.2).2.2), (by rw [← v_gx]; exact (ht.gx.eq a17.2).1), (by rw [← v_gy]; exact (ht.gx.eq a17.2).2), (by rw [← v_gz, numAt_eq a18.2]; exact ht.gz)⟩, ?_, ?_⟩
  · rw [← hM0]; exact a11.2
  · rw [← hM1]; exact a13.2
set_option maxHeartbeats 4000000 in
/-- Where the reader finds nothing amiss, all is well. -/
theorem rr_well {L : List Nat} {u : TxD} {M0 M1 : List Nat} {z : Obol.Rs} (h : RdC L u M0 M1 z) (hzf : z.1 = false) : posL L 3 + 16 ≤ L.length ∧ RrW L := by
  obtain ⟨s0, s1, s2, s3, s4, s5, s6, s7, s8, s9, s10, s11, s12, s13, s14, s15, s16, s17, s18, s19, hs0, hs1, hs2, hs3, hs4, hs5, hs6, hs7, hs8, hs9, hs10, hs11, hs12, hs13, hs14, hs15, hs16, hs17, hs18, hs19, hz, hM0, hM1, v_root, v_inn, v_out, v_fx, v_fy, v_tx, v_ty, v_seq, v_e0, v_e1, v_m0, v_m1, v_n0x, v_n0y, v_n1x, v_n1y, v_a0, v_a1, v_ia, v_xa, v_ya, v_ib, v_xb, v_yb, v_ic, v_xc, v_yc, v_gx, v_gy, v_gz⟩ := h
  have q0 : posL L 0 = 176 := rfl
  obtain ⟨k0, hk0⟩ : ∃ n, (if L.getD (posL L 0) 0 = 1 then 17 else 1) = n := ⟨_, rfl⟩
  obtain ⟨k1, hk1⟩ : ∃ n, (if L.getD (posL L 1) 0 = 1 then 17 else 1) = n := ⟨_, rfl⟩
  obtain ⟨k2, hk2⟩ : ∃ n, (if L.getD (posL L 2) 0 = 1 then 17 else 1) = n := ⟨_, rfl⟩
  have q1 : posL L 1 = posL L 0 + k0 := posL_next L 0 k0 hk0
  have q2 : posL L 2 = posL L 1 + k1 := posL_next L 1 k1 hk1
  have q3 : posL L 3 = posL L 2 + k2 := posL_next L 2 k2 hk2
  have f19 : s19.1 = false := by rw [hz]; exact hzf
  have f18 := Obol.ndN hs19 f19
  have f17 := Obol.ndP hs18 f18
  have g3 : (Obol.pfN s16 3).1 = false := by rw [hs17]; exact f17
  have g2 := Obol.ndF (rfl : Obol.pfS (Obol.pfN s16 2) = Obol.pfN s16 3) g3
  have g1 := Obol.ndF (rfl : Obol.pfS (Obol.pfN s16 1) = Obol.pfN s16 2) g2
  have f16 : s16.1 = false := Obol.ndF (rfl : Obol.pfS (Obol.pfN s16 0) = Obol.pfN s16 1) g1
  have f15 := Obol.ndN hs16 f16
  have f14 := Obol.ndN hs15 f15
  have f13 := Obol.ndN hs14 f14
  have f12 := Obol.ndP hs13 f13
  have f11 := Obol.ndN hs12 f12
  have f10 := Obol.ndP hs11 f11
  have f9 := Obol.ndN hs10 f10
  have f8 := Obol.ndN hs9 f9
  have f7 := Obol.ndN hs8 f8
  have f6 := Obol.ndN hs7 f7
  have f5 := Obol.ndN hs6 f6
  have f4 := Obol.ndP hs5 f5
  have f3 := Obol.ndP hs4 f4
  have f2 := Obol.ndN hs3 f3
  have f1 := Obol.ndN hs2 f2
  have f0 := Obol.ndN hs1 f1
  have z0 : s0 = (false, L.drop 0) := hs0.symm
  have a0 := Obol.gN z0 hs1 f1 (by decide)
  have z1 := (Obol.fN z0 hs1 a0).1
  have a1 := Obol.gN z1 hs2 f2 (by decide)
  have z2 := (Obol.fN z1 hs2 a1).1
  have a2 := Obol.gN z2 hs3 f3 (by decide)
  have z3 := (Obol.fN z2 hs3 a2).1
  obtain ⟨a3, w3, z4⟩ := Obol.gP z3 hs4 f4
  obtain ⟨a4, w4, z5⟩ := Obol.gP z4 hs5 f5
  have a5 := Obol.gN z5 hs6 f6 (by decide)
  have z6 := (Obol.fN z5 hs6 a5).1
  have a6 := Obol.gN z6 hs7 f7 (by decide)
  have z7 := (Obol.fN z6 hs7 a6).1
  have a7 := Obol.gN z7 hs8 f8 (by decide)
  have z8 := (Obol.fN z7 hs8 a7).1
  have a8 := Obol.gN z8 hs9 f9 (by decide)
  have z9 := (Obol.fN z8 hs9 a8).1
  have a9 := Obol.gN z9 hs10 f10 (by decide)
  have z10 := (Obol.fN z9 hs10 a9).1
  obtain ⟨a10, w10, z11⟩ := Obol.gP z10 hs11 f11
  have a11 := Obol.gN z11 hs12 f12 (by decide)
  have z12 := (Obol.fN z11 hs12 a11).1
  obtain ⟨a12, w12, z13⟩ := Obol.gP z12 hs13 f13
  have a13 := Obol.gN z13 hs14 f14 (by decide)
  have z14 := (Obol.fN z13 hs14 a13).1
  have a14 := Obol.gN z14 hs15 f15 (by decide)
  have z15 := (Obol.fN z14 hs15 a14).1
  have a15 := Obol.gN z15 hs16 f16 (by decide)
  have z16 := (Obol.fN z15 hs16 a15).1
  have y0 : Obol.pfN s16 0 = (false, L.drop (posL L 0)) := z16
  obtain ⟨d0, c0, y1⟩ := Obol.gF y0 (rfl : Obol.pfS (Obol.pfN s16 0) = Obol.pfN s16 1) hk0 g1
  rw [← q1] at y1
  rw [← ptB_eq L 0 k0 hk0] at c0
  obtain ⟨d1, c1, y2⟩ := Obol.gF y1 (rfl : Obol.pfS (Obol.pfN s16 1) = Obol.pfN s16 2) hk1 g2
  rw [← q2] at y2
  rw [← ptB_eq L 1 k1 hk1] at c1
  obtain ⟨d2, c2, y3⟩ := Obol.gF y2 (rfl : Obol.pfS (Obol.pfN s16 2) = Obol.pfN s16 3) hk2 g3
  rw [← q3] at y3
  rw [← ptB_eq L 2 k2 hk2] at c2
  have z17 : s17 = (false, L.drop (posL L 3)) := hs17.symm.trans y3
  obtain ⟨a17, w17, z18⟩ := Obol.gP z17 hs18 f18
  have a18 := Obol.gN z18 hs19 f19 (by decide)
  have z19 := (Obol.fN z18 hs19 a18).1
  exact ⟨by omega, w3, w4, w10, w12, c0, c1, c2, w17⟩

end Go.Proofs.Ytkfimfjjmdjbdaa
/- Walks: the reference of layer 3: multiples, points of order R. -/
namespace Go.Proofs.Ytkfimfjjmdjbdaa
open Go.RowKit
set_option linter.unusedVariables false

noncomputable def timO (a : Option (Nat × Nat)) (k : Nat) : Nat → Option (Nat × Nat) → Option (Nat × Nat)
  | 0, out => out
  | j + 1, out => timO a k j (if k / 2 ^ j % 2 = 1 then Obol.sumC (Obol.sumC out out) a else Obol.sumC out out)
theorem timO_some (a : Nat × Nat) (k : Nat) : ∀ j o, timO (.some a) k j o = Obol.timC a k j o
  | 0, _ => rfl
  | j + 1, o => by rw [timO, Obol.timC, timO_some a k j]
theorem timO_none (k : Nat) : ∀ j, timO Option.none k j Option.none = Option.none
  | 0 => rfl
  | j + 1 => by
    rw [timO]
    have h : (if k / 2 ^ j % 2 = 1 then Obol.sumC (Obol.sumC Option.none Option.none) Option.none else Obol.sumC Option.none Option.none) = Option.none := by split <;> rfl
    rw [h]
    exact timO_none k j
structure TimI (a : Option (Nat × Nat)) (k : Nat) (p : Option (Nat × Nat)) (oi : Bool) (ox oy c : Int) : Prop where
  c0 : 0 ≤ c
  c1 : c ≤ 64
  is : IsO p oi ox oy
  eq : timO a k (64 - c.toNat) p = timO a k 64 Option.none
theorem TimI.one {a p : Option (Nat × Nat)} {k : Nat} {oi : Bool} {ox oy c y : Int} (h : TimI a k p oi ox oy c) (hk : k = y.toNat) (hy : 0 ≤ y) (hc : c < 64) (hb : bitI y c = 1) {oi' : Bool} {ox' oy' : Int} (hs : IsO (Obol.sumC (Obol.sumC p p) a) oi' ox' oy') :
    TimI a k (Obol.sumC (Obol.sumC p p) a) oi' ox' oy' (c + 1) := by
  have c0 := h.c0
  refine ⟨by omega, by omega, hs, ?_⟩
  have he := h.eq
  have hb2 := bitI_toNat y c hy c0 hc
  rw [show 64 - c.toNat = (63 - c.toNat) + 1 by omega, timO, if_pos (by rw [hk]; omega)] at he
  rw [show 64 - (c + 1).toNat = 63 - c.toNat by omega]
  exact he
theorem TimI.zero {a p : Option (Nat × Nat)} {k : Nat} {oi : Bool} {ox oy c y : Int} (h : TimI a k p oi ox oy c) (hk : k = y.toNat) (hy : 0 ≤ y) (hc : c < 64) (hb : bitI y c = 0) {oi' : Bool} {ox' oy' : Int} (hs : IsO (Obol.sumC p p) oi' ox' oy') :
    TimI a k (Obol.sumC p p) oi' ox' oy' (c + 1) := by
  have c0 := h.c0
  refine ⟨by omega, by omega, hs, ?_⟩
  have he := h.eq
  have hb2 := bitI_toNat y c hy c0 hc
  rw [show 64 - c.toNat = (63 - c.toNat) + 1 by omega, timO, if_neg (by rw [hk]; omega)] at he
  rw [show 64 - (c + 1).toNat = 63 - c.toNat by omega]
  exact he
theorem TimI.done {a p : Option (Nat × Nat)} {k : Nat} {oi : Bool} {ox oy c : Int} (h : TimI a k p oi ox oy c) (hc : ¬ c < 64) : IsO (timO a k 64 Option.none) oi ox oy := by
  have c1 := h.c1
  have he := h.eq
  rw [show 64 - c.toNat = 0 by omega, timO] at he
  rw [← he]
  exact h.is

set_option maxRecDepth 8000 in
set_option maxHeartbeats 8000000 in
theorem r3Times (a : Option (Nat × Nat)) (i : Bool) (X Y k : Int) (ha0 : IsO a i X Y) (hk : 0 ≤ k) (hk1 : k ≤ 18446744073709551615) (w : World) :
    Calls Try.prog 60 #[ptV i X Y, .int .u64 k] w (SumSaid (timO a k.toNat 64 Option.none) w) := by
  have ha := Lib.hid ha0
  have I0 : Hid (TimI a k.toNat Option.none true 0 0 0) := Lib.hid ⟨by omega, by omega, ⟨rfl, rfl, rfl⟩, rfl⟩
  clear ha0
  go_enter Try.func60, Try.ntmps60
  go_upto_region 1 with fail
  have hR1 := ((HR.refl w).new #[.bool i, .int .u64 X, .int .u64 Y] 31).new #[.bool false, .int .u64 0, .int .u64 0] 31
  simp only [World.size_alloc] at hR1
  have hbw := hR1.lt (b := w.heap.size + 1) (cs := #[.bool false, .int .u64 0, .int .u64 0]) (t := 31) (by simp)
  generalize (w.alloc (.cells #[.bool i, .int .u64 X, .int .u64 Y] 31)).alloc (.cells #[.bool false, .int .u64 0, .int .u64 0] 31) = w2 at hR1 hbw ⊢
  generalize hb4 : w.heap.size + 1 = b4 at hR1 hbw ⊢
  generalize hb1 : w.heap.size = b1 at hR1 ⊢
  have hbs : Hid (w.heap.size ≤ b1 ∧ b1 < b4 ∧ b4 < w2.heap.size) := Lib.hid (by omega)
  have H0 : Hid (HR w w2 [(b4, #[.bool false, .int .u64 0, .int .u64 0], 31), (b1, #[.bool i, .int .u64 X, .int .u64 Y], 31)]) := Lib.hid hR1
  clear hb1 hb4 hR1 hbw
  go_upto_region 2 with fail
  have hR5 := H0.out.new #[.bool true, .int .u64 0, .int .u64 0] 31
  have hlt5 := hbs.out
  generalize w2.alloc (.cells #[.bool true, .int .u64 0, .int .u64 0] 31) = w3 at hR5 ⊢
  generalize w2.heap.size = b5 at hR5 hlt5 ⊢
  have H3 : Hid (HR w w3 [(b5, #[.bool true, .int .u64 0, .int .u64 0], 31), (b4, #[.bool false, .int .u64 0, .int .u64 0], 31), (b1, #[.bool i, .int .u64 X, .int .u64 Y], 31)]) := Lib.hid hR5
  have hbt : Hid (w.heap.size ≤ b1 ∧ b1 < b4 ∧ b4 < b5) := Lib.hid hlt5
  clear H0 hR5 hlt5 hbs
  go_wp2_with fail
  go_loopw [6] (fun q wr => ∃ (p : Option (Nat × Nat)) (oi : Bool) (ox oy c : Int), q = .int .i64 c ∧ Hid (HR w wr [(b5, #[.bool oi, .int .u64 ox, .int .u64 oy], 31), (b4, #[.bool false, .int .u64 0, .int .u64 0], 31), (b1, #[.bool i, .int .u64 X, .int .u64 Y], 31)]) ∧ Hid (TimI a k.toNat p oi ox oy c)) (fun q _ => (64 - intOf q).toNat)
  case atStart => exact ⟨Option.none, true, 0, 0, 0, rfl, H3, I0⟩
  case round =>
    clear H3 I0
    obtain ⟨p, oi, ox, oy, c, rfl, HR0, HI⟩ := hrel
    have i0 := HI.out.c0
    have i1 := HI.out.c1
    have ea := bitI_bits k c hk hk1
    by_cases hi : c < 64
    · have cS := Lib.hid (fun W => r3Sum p p oi ox oy oi ox oy HI.out.is HI.out.is W)
      have c_b5_0 := HR0.out.cell (b := b5) (cs := #[.bool oi, .int .u64 ox, .int .u64 oy]) (t := 31) (by simp) 0 rfl
      have c_b5_1 := HR0.out.cell (b := b5) (cs := #[.bool oi, .int .u64 ox, .int .u64 oy]) (t := 31) (by simp) 1 rfl
      have c_b5_2 := HR0.out.cell (b := b5) (cs := #[.bool oi, .int .u64 ox, .int .u64 oy]) (t := 31) (by simp) 2 rfl
      have c_b1_0 := HR0.out.cell (b := b1) (cs := #[.bool i, .int .u64 X, .int .u64 Y]) (t := 31) (by simp) 0 rfl
      have c_b1_1 := HR0.out.cell (b := b1) (cs := #[.bool i, .int .u64 X, .int .u64 Y]) (t := 31) (by simp) 1 rfl
      have c_b1_2 := HR0.out.cell (b := b1) (cs := #[.bool i, .int .u64 X, .int .u64 Y]) (t := 31) (by simp) 2 rfl
      go_wp2_with fail
      refine (cS.out _).mono ?_
      rintro e v1 ⟨⟨xi, xx, xy, hx, rfl⟩, hv1⟩
      have K1 := Lib.hid (HR0.out.next hv1)
      have hX := Lib.hid hx
      clear c_b5_0 c_b5_1 c_b5_2 c_b1_0 c_b1_1 c_b1_2
      clear hv1 hx HR0 cS
      have c_b5_0 := K1.out.cell (b := b5) (cs := #[.bool oi, .int .u64 ox, .int .u64 oy]) (t := 31) (by simp) 0 rfl
      have c_b5_1 := K1.out.cell (b := b5) (cs := #[.bool oi, .int .u64 ox, .int .u64 oy]) (t := 31) (by simp) 1 rfl
      have c_b5_2 := K1.out.cell (b := b5) (cs := #[.bool oi, .int .u64 ox, .int .u64 oy]) (t := 31) (by simp) 2 rfl
      have f_b5_0 := K1.out.free (b := b5) (cs := #[.bool oi, .int .u64 ox, .int .u64 oy]) (t := 31) (by simp) 0
      have f_b5_1 := K1.out.free (b := b5) (cs := #[.bool oi, .int .u64 ox, .int .u64 oy]) (t := 31) (by simp) 1
      have f_b5_2 := K1.out.free (b := b5) (cs := #[.bool oi, .int .u64 ox, .int .u64 oy]) (t := 31) (by simp) 2
      rcases bitI_01 k c with hB | hB
      · have HN := Lib.hid (HI.out.zero rfl hk hi hB hX.out)
        rw [hB] at ea
        replace hB := Lib.hid hB
        go_wp2_with fail
        clear c_b5_0 c_b5_1 c_b5_2 f_b5_0 f_b5_1 f_b5_2
        exact ⟨⟨_, _, _, _, _, rfl, Lib.hid (HR.put3 K1.out (by have := hbt.out; simp; omega) (by have := hbt.out; omega)), HN⟩, by simp [intOf]; omega⟩
      · have HN := fun oi' ox' oy' hs => Lib.hid (HI.out.one (oi' := oi') (ox' := ox') (oy' := oy') rfl hk hi hB hs)
        have cT := Lib.hid (fun W => r3Sum (Obol.sumC p p) a xi xx xy i X Y hX.out ha.out W)
        rw [hB] at ea
        replace hB := Lib.hid hB
        replace HN := Lib.hid HN
        go_upto_region 6 with fail
        have J1 := Lib.hid (HR.put3 (u := .bool xi) (v := .int .u64 xx) (x := .int .u64 xy) K1.out (by have := hbt.out; simp; omega) (by have := hbt.out; omega))
        clear c_b5_0 c_b5_1 c_b5_2 f_b5_0 f_b5_1 f_b5_2
        generalize ((v1.setCell ⟨b5, 0, none⟩ (.bool xi)).setCell ⟨b5, 1, none⟩ (.int .u64 xx)).setCell ⟨b5, 2, none⟩ (.int .u64 xy) = m1 at J1 ⊢
        clear K1
        have c_b5_0 := J1.out.cell (b := b5) (cs := #[.bool xi, .int .u64 xx, .int .u64 xy]) (t := 31) (by simp) 0 rfl
        have c_b5_1 := J1.out.cell (b := b5) (cs := #[.bool xi, .int .u64 xx, .int .u64 xy]) (t := 31) (by simp) 1 rfl
        have c_b5_2 := J1.out.cell (b := b5) (cs := #[.bool xi, .int .u64 xx, .int .u64 xy]) (t := 31) (by simp) 2 rfl
        have c_b1_0 := J1.out.cell (b := b1) (cs := #[.bool i, .int .u64 X, .int .u64 Y]) (t := 31) (by simp) 0 rfl
        have c_b1_1 := J1.out.cell (b := b1) (cs := #[.bool i, .int .u64 X, .int .u64 Y]) (t := 31) (by simp) 1 rfl
        have c_b1_2 := J1.out.cell (b := b1) (cs := #[.bool i, .int .u64 X, .int .u64 Y]) (t := 31) (by simp) 2 rfl
        go_wp2_with fail
        refine (cT.out _).mono ?_
        rintro e v2 ⟨⟨yi, yx, yy, hy, rfl⟩, hv2⟩
        have K2 := Lib.hid (J1.out.next hv2)
        have hY := Lib.hid (HN.out yi yx yy hy)
        clear c_b5_0 c_b5_1 c_b5_2 c_b1_0 c_b1_1 c_b1_2
        clear hv2 hy J1 cT HN
        have c_b5_0 := K2.out.cell (b := b5) (cs := #[.bool xi, .int .u64 xx, .int .u64 xy]) (t := 31) (by simp) 0 rfl
        have c_b5_1 := K2.out.cell (b := b5) (cs := #[.bool xi, .int .u64 xx, .int .u64 xy]) (t := 31) (by simp) 1 rfl
        have c_b5_2 := K2.out.cell (b := b5) (cs := #[.bool xi, .int .u64 xx, .int .u64 xy]) (t := 31) (by simp) 2 rfl
        have f_b5_0 := K2.out.free (b := b5) (cs := #[.bool xi, .int .u64 xx, .int .u64 xy]) (t := 31) (by simp) 0
        have f_b5_1 := K2.out.free (b := b5) (cs := #[.bool xi, .int .u64 xx, .int .u64 xy]) (t := 31) (by simp) 1
        have f_b5_2 := K2.out.free (b := b5) (cs := #[.bool xi, .int .u64 xx, .int .u64 xy]) (t := 31) (by simp) 2
        go_wp2_with fail
        clear c_b5_0 c_b5_1 c_b5_2 f_b5_0 f_b5_1 f_b5_2
        exact ⟨⟨_, _, _, _, _, rfl, Lib.hid (HR.put3 K2.out (by have := hbt.out; simp; omega) (by have := hbt.out; omega)), hY.out⟩, by simp [intOf]; omega⟩
    · have hD := Lib.hid (HI.out.done hi)
      have c_b5_0 := HR0.out.cell (b := b5) (cs := #[.bool oi, .int .u64 ox, .int .u64 oy]) (t := 31) (by simp) 0 rfl
      have c_b5_1 := HR0.out.cell (b := b5) (cs := #[.bool oi, .int .u64 ox, .int .u64 oy]) (t := 31) (by simp) 1 rfl
      have c_b5_2 := HR0.out.cell (b := b5) (cs := #[.bool oi, .int .u64 ox, .int .u64 oy]) (t := 31) (by simp) 2 rfl
      have c_b4_0 := HR0.out.cell (b := b4) (cs := #[.bool false, .int .u64 0, .int .u64 0]) (t := 31) (by simp) 0 rfl
      have c_b4_1 := HR0.out.cell (b := b4) (cs := #[.bool false, .int .u64 0, .int .u64 0]) (t := 31) (by simp) 1 rfl
      have c_b4_2 := HR0.out.cell (b := b4) (cs := #[.bool false, .int .u64 0, .int .u64 0]) (t := 31) (by simp) 2 rfl
      have f_b4_0 := HR0.out.free (b := b4) (cs := #[.bool false, .int .u64 0, .int .u64 0]) (t := 31) (by simp) 0
      have f_b4_1 := HR0.out.free (b := b4) (cs := #[.bool false, .int .u64 0, .int .u64 0]) (t := 31) (by simp) 1
      have f_b4_2 := HR0.out.free (b := b4) (cs := #[.bool false, .int .u64 0, .int .u64 0]) (t := 31) (by simp) 2
      have hL := Lib.hid (HR.put3 (u := .bool oi) (v := .int .u64 ox) (x := .int .u64 oy) (HR.sub (qs := [(b4, #[.bool false, .int .u64 0, .int .u64 0], 31)]) HR0.out (by simp)) (by simp) (by have := hbt.out; omega))
      have s0 := hL.out.cell (b := b4) (cs := #[.bool oi, .int .u64 ox, .int .u64 oy]) (t := 31) (by simp) 0 rfl
      have s1 := hL.out.cell (b := b4) (cs := #[.bool oi, .int .u64 ox, .int .u64 oy]) (t := 31) (by simp) 1 rfl
      have s2 := hL.out.cell (b := b4) (cs := #[.bool oi, .int .u64 ox, .int .u64 oy]) (t := 31) (by simp) 2 rfl
      go_wp2_with fail
      refine bodyPost_ret (v := ptV oi ox oy) (by simp [results, Try.results60, go_sem, s0, s1, s2]) rfl ⟨⟨_, _, _, hD.out, rfl⟩, hL.out.2⟩

theorem r3field_inf (b : Bool) (x y : Value) (w : World) : (Instr.field 31 (.agg #[.bool b, x, y]) 0).run Try.prog w = .ok (.bool b) w := by kernel_rfl
def ptO (i : Bool) (X Y : Int) : Option (Nat × Nat) := if i = true then Option.none else .some (X.toNat, Y.toNat)
theorem ptO_is {i : Bool} {X Y : Int} (h : isPt i X Y = true) (hX : 0 ≤ X) (hY : 0 ≤ Y) : IsO (ptO i X Y) i X Y := by
  cases i
  · exact ⟨rfl, (Int.toNat_of_nonneg hX).symm, (Int.toNat_of_nonneg hY).symm⟩
  · have h2 : (X == 0 && Y == 0) = true := h
    have h1 : X = 0 ∧ Y = 0 := by simpa using h2
    exact ⟨rfl, h1.1, h1.2⟩
theorem infC_times {i : Bool} {X Y : Int} {k : Nat} {oi : Bool} {ox oy : Int} (h : IsO (timO (ptO i X Y) k 64 Option.none) oi ox oy) : oi = infC i X Y k := by
  cases i
  · have h2 : timO (ptO false X Y) k 64 Option.none = Obol.timC (X.toNat, Y.toNat) k 64 Option.none := timO_some _ _ _ _
    rw [h2] at h
    unfold infC
    rw [Bool.false_or]
    cases hT : Obol.timC (X.toNat, Y.toNat) k 64 Option.none with
    | none => rw [hT] at h; exact h.1
    | some q => rw [hT] at h; exact h.1
  · have h2 : timO (ptO true X Y) k 64 Option.none = Option.none := timO_none _ _
    rw [h2] at h
    exact h.1

set_option maxRecDepth 8000 in
theorem r3In (i : Bool) (X Y : Int) (hX : 0 ≤ X) (hY : 0 ≤ Y) (w : World) :
    Calls Try.prog 33 #[ptV i X Y] w fun e w' => e = .returned (.bool (inPt i X Y)) ∧ Below w.heap.size w w' := by
  cases hp : isPt i X Y
  · have hI := Lib.hid hp
    have hR : Hid (inPt i X Y = false) := Lib.hid (by unfold inPt; rw [hp, Bool.false_and])
    clear hp
    go_enter Try.func33, Try.ntmps33
    go_wp2_with (go_at_call 59; refine (r3Is _ _ _ hX hY _).mono ?_; rintro e w1 ⟨rfl, hb⟩; rw [hI.out]; obtain ⟨hc, hf⟩ := bcell hb; have hz := hb.size; (try simp at hz))
    go_ret
    exact ⟨by rw [hR.out]; rfl, by repeat (first | exact Below.refl _ _ | assumption | apply bDrewN | apply bDrew | apply bAlloc | refine bSet ?_ (by omega) | refine bThen ?_ (by assumption) (by simp <;> omega))⟩
  · have hI := Lib.hid hp
    have hR : Hid (inPt i X Y = infC i X Y Obol.R) := Lib.hid (by unfold inPt; rw [hp, Bool.true_and])
    have hM := Lib.hid (fun w => r3Times (ptO i X Y) i X Y 288230376287764481 (ptO_is hp hX hY) (by omega) (by omega) w)
    rw [litR] at hM
    have hfl := r3field_inf
    clear hp
    go_enter Try.func33, Try.ntmps33
    go_wp2_with (first | (go_at_call 59; refine (r3Is _ _ _ hX hY _).mono ?_; rintro e w1 ⟨rfl, hb⟩; rw [hI.out]; obtain ⟨hc, hf⟩ := bcell hb; have hz := hb.size; (try simp at hz)) | (go_at_call 60; refine (hM.out _).mono ?_; rintro e w2 ⟨⟨oi, ox, oy, ho, rfl⟩, hb2⟩; have hO := Lib.hid (infC_times ho); clear ho; replace hb := bThen hb hb2 hb.size; clear hb2; obtain ⟨hc2, hf2⟩ := bcell hb; have hz2 := hb.size; (try simp at hz2)))
    go_ret
    exact ⟨by rw [hR.out, ← hO.out]; rfl, by repeat (first | exact Below.refl _ _ | assumption | apply bDrewN | apply bDrew | apply bAlloc | refine bSet ?_ (by omega) | refine bThen ?_ (by assumption) (by simp <;> omega))⟩

end Go.Proofs.Ytkfimfjjmdjbdaa
