import Derived.Test.YtkfimfjjmdjbdaaUp
import Derived.Deep.CutBlock
import Derived.Deep.DeepCutAuto
set_option linter.unusedVariables false
set_option linter.unusedSimpArgs false
set_option linter.unusedSectionVars false
/- Walks: package tx: what Read answers, told for the laws. -/
namespace Go.Proofs.Ytkfimfjjmdjbdaa
open Go.RowKit
set_option linter.unusedVariables false

theorem OwF.sl {g e : Nat} {z : Array Value} {M : List Nat} {b5 br base : Nat} {W : World} (h : OwF g e z M b5 br) (hR : Row W g z 5) (hb : g < base) : SlI base W (some ⟨g, 0, none⟩) e M :=
  ⟨by rw [h.len]; exact h.le, by have := h.cap; unfold maxLen at this; omega, (fun h => by cases h), fun _ => ⟨g, 0, rfl, hb, fun i hi => by
    rw [Nat.zero_add]
    refine hR.cell i ?_
    have hi2 : i < 32 := by rw [← h.len]; exact hi
    have e1 : z[i]? = (z.toList.take 32)[i]? := by rw [List.getElem?_take, if_pos hi2, Array.getElem?_toList]
    rw [e1, h.take]
    simp only [List.getElem?_map, List.getElem?_eq_getElem hi, List.getD_eq_getElem?_getD]
    rfl⟩⟩
/-- The three answers. -/
def RdE (t : TxD) (z : Obol.Rs) (Z : Array Value) (E : Value) : Prop :=
  ((z.1 = true ∨ mayB t = false) ∧ Z = zC ∧ E = errV 3) ∨ (z.1 = false ∧ mayB t = true ∧ 0 < z.2.length ∧ Z = zC ∧ E = errV 4) ∨ (z.1 = false ∧ mayB t = true ∧ z.2 = [] ∧ Z = txC t ∧ E = .nilIface)
theorem RdE.of (t : TxD) (z : Obol.Rs) : ∃ Z E, rdRes t z = .tuple #[.agg Z, E] ∧ RdE t z Z E := by
  unfold rdRes
  by_cases h : z.1 = true ∨ mayB t = false
  · rw [if_pos h]
    exact ⟨_, _, rfl, .inl ⟨h, rfl, rfl⟩⟩
  · rw [if_neg h]
    have h1 : z.1 = false := by
      cases hz : z.1 with
      | true => exact (h (.inl hz)).elim
      | false => rfl
    have h2 : mayB t = true := by
      cases hm : mayB t with
      | true => rfl
      | false => exact (h (.inr hm)).elim
    by_cases hl : 0 < z.2.length
    · rw [if_pos hl]
      exact ⟨_, _, rfl, .inr (.inl ⟨h1, h2, hl, rfl, rfl⟩)⟩
    · rw [if_neg hl]
      exact ⟨_, _, rfl, .inr (.inr ⟨h1, h2, List.eq_nil_of_length_eq_zero (by omega), rfl, rfl⟩)⟩
theorem RdE.size {t : TxD} {z : Obol.Rs} {Z : Array Value} {E : Value} (h : RdE t z Z E) : Z.size = zC.size ∧ Z.all (·.oneCell') = true ∧ (Try.prog.info? 37).map (·.size) = some Z.size := by
  rcases h with ⟨_, rfl, _⟩ | ⟨_, _, _, rfl, _⟩ | ⟨_, _, _, rfl, _⟩
  · exact ⟨rfl, oneZ, sizTX⟩
  · exact ⟨rfl, oneZ, sizTX⟩
  · exact ⟨rfl, oneTx t, sizTX⟩
structure RdB (base : Nat) (t : TxD) (M0 M1 : List Nat) (g0 g1 : Nat) (z0 z1 : Array Value) : Prop where
  s0 : t.s0 = some ⟨g0, 0, none⟩
  s1 : t.s1 = some ⟨g1, 0, none⟩
  l0 : t.l0 = 32
  l1 : t.l1 = 32
  m0 : M0.length = 32
  m1 : M1.length = 32
  b0 : base ≤ g0
  b1 : base ≤ g1
  k0 : ∀ (W : World) (B : Nat), Row W g0 z0 5 → g0 < B → SlI B W t.s0 t.c0 M0
  k1 : ∀ (W : World) (B : Nat), Row W g1 z1 5 → g1 < B → SlI B W t.s1 t.c1 M1
theorem RdB.bods {base : Nat} {t : TxD} {M0 M1 : List Nat} {g0 g1 : Nat} {z0 z1 : Array Value} (h : RdB base t M0 M1 g0 g1 z0 z1) {W : World} (h0 : Row W g0 z0 5) (h1 : Row W g1 z1 5) : Bods t M0 M1 W.heap.size W :=
  ⟨h.m0.trans h.l0.symm, h.m1.trans h.l1.symm, h.k0 W _ h0 h0.lt, h.k1 W _ h1 h1.lt⟩
/-- What Read leaves. -/
def RdO (L : List Nat) (w : World) (e : Ending) (w' : World) : Prop := ∃ (Z : Array Value) (E : Value) (t : TxD) (M0 M1 : List Nat) (z : Obol.Rs) (g0 g1 : Nat) (z0 z1 : Array Value),
  e = .returned (.tuple #[.agg Z, E]) ∧ RdC L t M0 M1 z ∧ TxOk t ∧ RdB w.heap.size t M0 M1 g0 g1 z0 z1 ∧ RdE t z Z E ∧ Row w' g0 z0 5 ∧ Row w' g1 z1 5 ∧ Below w.heap.size w w'
theorem tReadO (ao : Option Addr) (n c : Nat) (L : List Nat) (hn : L.length = n) (hb : ∀ i, L.getD i 0 < 256) (w : World) (hS : SlI w.heap.size w ao c L) : Calls Try.prog 15 #[.slice ao n c] w (RdO L w) := by
  refine (tRead ao n c L hn hb w hS).mono ?_
  rintro e w' ⟨t, M0, M1, z, b5, br, g0, e0, g1, e1, z0, z1, hC, hk, hB, ⟨p0, q0, rfl⟩, ⟨p1, q1, rfl⟩, o0, o1, hbr, _, r0, r1, rfl⟩
  obtain ⟨Z, E, h1, h2⟩ := RdE.of t z
  rw [h1]
  exact ⟨Z, E, t, M0, M1, z, g0, g1, z0, z1, rfl, hC, hk, ⟨p0, p1, q0, q1, o0.len, o1.len, by have := o0.nr; omega, by have := o1.nr; omega, fun W B hR hl => by rw [p0]; exact o0.sl hR hl, fun W B hR hl => by rw [p1]; exact o1.sl hR hl⟩, h2, r0, r1, hB⟩
/-- The same bytes are read alike. -/
theorem RdC.det {L : List Nat} {t u : TxD} {M0 M1 K0 K1 : List Nat} {z y : Obol.Rs} (h : RdC L t M0 M1 z) (g : RdC L u K0 K1 y) : Alike t u ∧ M0 = K0 ∧ M1 = K1 ∧ z = y := by
  obtain ⟨s0, s1, s2, s3, s4, s5, s6, s7, s8, s9, s10, s11, s12, s13, s14, s15, s16, s17, s18, s19, rfl, rfl, rfl, rfl, rfl, rfl, rfl, rfl, rfl, rfl, rfl, rfl, rfl, rfl, rfl, rfl, rfl, rfl, rfl, rfl, rfl, rfl, rfl, v_root, v_inn, v_out, v_fx, v_fy, v_tx, v_ty, v_seq, v_e0, v_e1, v_m0, v_m1, v_n0x, v_n0y, v_n1x, v_n1y, v_a0, v_a1, v_ia, v_xa, v_ya, v_ib, v_xb, v_yb, v_ic, v_xc, v_yc, v_gx, v_gy, v_gz⟩ := h
  obtain ⟨r0, r1, r2, r3, r4, r5, r6, r7, r8, r9, r10, r11, r12, r13, r14, r15, r16, r17, r18, r19, rfl, rfl, rfl, rfl, rfl, rfl, rfl, rfl, rfl, rfl, rfl, rfl, rfl, rfl, rfl, rfl, rfl, rfl, rfl, rfl, rfl, rfl, rfl, u_root, u_inn, u_out, u_fx, u_fy, u_tx, u_ty, u_seq, u_e0, u_e1, u_m0, u_m1, u_n0x, u_n0y, u_n1x, u_n1y, u_a0, u_a1, u_ia, u_xa, u_ya, u_ib, u_xb, u_yb, u_ic, u_xc, u_yc, u_gx, u_gy, u_gz⟩ := g
  exact ⟨⟨v_root.symm.trans u_root, v_inn.symm.trans u_inn, v_out.symm.trans u_out, v_fx.symm.trans u_fx, v_fy.symm.trans u_fy, v_tx.symm.trans u_tx, v_ty.symm.trans u_ty, v_seq.symm.trans u_seq, v_e0.symm.trans u_e0, v_e1.symm.trans u_e1, v_m0.symm.trans u_m0, v_m1.symm.trans u_m1, v_n0x.symm.trans u_n0x, v_n0y.symm.trans u_n0y, v_n1x.symm.trans u_n1x, v_n1y.symm.trans u_n1y, v_a0.symm.trans u_a0, v_a1.symm.trans u_a1, v_ia.symm.trans u_ia, v_xa.symm.trans u_xa, v_ya.symm.trans u_ya, v_ib.symm.trans u_ib, v_xb.symm.trans u_xb, v_yb.symm.trans u_yb, v_ic.symm.trans u_ic, v_xc.symm.trans u_xc, v_yc.symm.trans u_yc, v_gx.symm.trans u_gx, v_gy.symm.trans u_gy, v_gz.symm.trans u_gz⟩, rfl, rfl, rfl⟩
/-- A byte less isn't read. -/
theorem RdC.less {L : List Nat} {t u v : TxD} {L0 L1 M0 M1 K0 K1 : List Nat} {z y : Obol.Rs} (hL : L = wriL t L0 L1) (ht : TxOk t) (hm : MayI t) (n0 : L0.length = 32) (n1 : L1.length = 32) (h : RdC L u M0 M1 z)
    (hb : ∀ i, L.getD i 0 < 256) (n : Nat) (hn : n < L.length) (g : RdC (L.take n) v K0 K1 y) (hv : TxOk v) (k0 : K0.length = 32) (k1 : K1.length = 32) : y.1 = true ∨ mayB v = false := by
  cases hy : y.1 with
  | true => exact .inl rfl
  | false =>
    refine .inr ?_
    cases hmv : mayB v with
    | false => rfl
    | true =>
      have e := rdc_read g (fun i => by
        rw [List.getD_eq_getElem?_getD, List.getElem?_take]
        split
        · have := hb i; rwa [List.getD_eq_getElem?_getD] at this
        · simp) hy
      have e2 : L = wriL v K0 K1 ++ (y.2 ++ L.drop n) := by rw [← List.append_assoc, ← e, List.take_append_drop]
      have a := (rdc_back (r := []) (by rw [List.append_nil]; exact hL) ht hm n0 n1 h).2.2.2
      have b := (rdc_back e2 hv (MayI.of hmv) k0 k1 h).2.2.2
      rw [a] at b
      have c := congrArg (fun s => s.2.length) b
      simp only [List.length_append, List.length_drop, List.length_nil] at c
      omega

end Go.Proofs.Ytkfimfjjmdjbdaa
/- Walks: the reference of layer 19: two transactions that are alike are the same. -/
namespace Go.Proofs.Ytkfimfjjmdjbdaa
open Go.RowKit
set_option linter.unusedVariables false
set_option linter.unusedSimpArgs false

abbrev likeD (a : TxD) (p0 : Option Addr) (n0 q0 : Nat) (p1 : Option Addr) (n1 q1 : Nat) : TxD := { a with s0 := p0, l0 := n0, c0 := q0, s1 := p1, l1 := n1, c1 := q1 }
theorem Alike.eq {t u : TxD} (h : Alike t u) : t = likeD u t.s0 t.l0 t.c0 t.s1 t.l1 t.c1 := by
  cases t
  cases u
  unfold Alike at h
  simp only [TxD.mk.injEq, true_and, and_true] at h ⊢
  simp only [h, and_self]
theorem Alike.symm {t u : TxD} (h : Alike t u) : Alike u t := by
  unfold Alike at h ⊢
  simp only [h, and_self]
theorem Alike.trans {t u v : TxD} (h : Alike t u) (g : Alike u v) : Alike t v := by
  unfold Alike at h g ⊢
  simp only [h, g, and_self]
theorem Alike.refl (t : TxD) : Alike t t := by unfold Alike; simp only [and_self]
theorem SlI.convN {base : Nat} {w : World} {ao : Option Addr} {n cap : Nat} {L : List Nat} (h : SlI base w ao cap L) (hn : L.length = n) : (convert 26 9 (.slice ao n cap)).run Try.prog w = .ok (.string (strB L)) w := by
  subst hn
  exact h.conv9
theorem eqPr (ia : Bool) (xa ya : Int) (ib : Bool) (xb yb : Int) (ic : Bool) (xc yc : Int) (W : World) : (binOp .eql 33 (.agg #[.bool ia, .int .u64 xa, .int .u64 ya, .bool ib, .int .u64 xb, .int .u64 yb, .bool ic, .int .u64 xc, .int .u64 yc]) (.agg #[.bool ia, .int .u64 xa, .int .u64 ya, .bool ib, .int .u64 xb, .int .u64 yb, .bool ic, .int .u64 xc, .int .u64 yc])).run Try.prog W = .ok (.bool true) W := by
  go_simp
theorem wpList_loadm_on {P : Program} {ops : Array Oper} {rest : List Oper} {o : Oper} {a : Act} {w : World} {Q : Exit → Act → World → Prop} (hw : Region.wanted o (yielded ops a.tmps) = true) (ty : TypeId) (x : Operand) (ho : o.op = .load ty x)
    (b k : Nat) (hx : a.eval x = .pointer (some ⟨b, k, none⟩)) (cs : List Value) (d : TypeDesc) (hr : w.rangeAt b k cs) (hu : P.underlying ty = some d) (hd : d.isRow = true) (hi : (P.info? ty).map (·.size) = some cs.length)
    (h : wpList P ops Q rest (a.put o.dst (.agg cs.toArray)) w) : wpList P ops Q (o :: rest) a w :=
  wpList_on hw fun _ hK => by
    unfold Oper.wp execOp
    simp only [ho, hx, Instr.loadAt, Instr.sureAddr, Sem.run_bind, Sem.run_pure, Result.andThen_ok, run_loadVar_mid w b k ty cs d hr hu hd hi]
    exact hK _ _ h
theorem Row.part {w : World} {b : Nat} {cs : Array Value} {t : TypeId} (h : Row w b cs t) (o : Nat) (vs : List Value) (hv : ∀ j v, vs[j]? = some v → cs[o + j]? = some v) : w.rangeAt b o vs := fun j v hj => h.cell (o + j) (hv j v hj)
set_option maxRecDepth 100000 in
set_option maxHeartbeats 100000000 in
theorem lSame (a : TxD) (p0 : Option Addr) (n0 q0 : Nat) (p1 : Option Addr) (n1 q1 : Nat) (L0 L1 : List Nat) (w : World) (hn : L0.length = a.l0 ∧ L1.length = a.l1 ∧ L0.length = n0 ∧ L1.length = n1)
    (hS0 : SlI w.heap.size w a.s0 a.c0 L0) (hS1 : SlI w.heap.size w a.s1 a.c1 L1) (hT0 : SlI w.heap.size w p0 q0 L0) (hT1 : SlI w.heap.size w p1 q1 L1) :
    Calls Try.prog 18 #[txV a, txV (likeD a p0 n0 q0 p1 n1 q1)] w fun e w' => e = .returned (.bool true) ∧ Below w.heap.size w w' := by
  have S0 := Lib.hid hS0
  have S1 := Lib.hid hS1
  have T0 := Lib.hid hT0
  have T1 := Lib.hid hT1
  replace hn := Lib.hid hn
  clear hS0 hS1 hT0 hT1
  go_enter Try.func18, Try.ntmps18
  go_upto_region 1 with fail
  have E := ((HR.refl w).new (txC a) 37).new (txC (likeD a p0 n0 q0 p1 n1 q1)) 37
  simp only [World.size_alloc] at E
  generalize (w.alloc (.cells (txC a) 37)).alloc (.cells (txC (likeD a p0 n0 q0 p1 n1 q1)) 37) = w1 at E ⊢
  obtain ⟨b3, hb3⟩ : ∃ z, w.heap.size + 1 = z := ⟨_, rfl⟩
  obtain ⟨b2, hb2⟩ : ∃ z, w.heap.size = z := ⟨_, rfl⟩
  rw [hb3, hb2] at E ⊢
  have H0 : Hid (HR w w1 [(b3, txC (likeD a p0 n0 q0 p1 n1 q1), 37), (b2, txC a, 37)]) := Lib.hid E
  clear E hb3
  replace hb2 := Lib.hid hb2
  go_upto_region 2 with fail
  go_loopw [5] (fun q wr => ∃ j : Nat, j ≤ 2 ∧ q = .int .i64 (j : Int) ∧ Hid (HR w wr [(b3, txC (likeD a p0 n0 q0 p1 n1 q1), 37), (b2, txC a, 37)])) (fun q _ => (2 - intOf q).toNat)
  case atStart => exact ⟨0, by omega, rfl, H0⟩
  case round =>
    clear H0
    obtain ⟨j, hj, rfl, H1⟩ := hrel
    rcases (by omega : j = 0 ∨ j = 1 ∨ j = 2) with rfl | rfl | rfl
    · go_upto_region 4 with fail
      refine wp_region_noPanic ?_
      refine wp_region_held_drew (S := fun wq => wq.cell? ⟨b2, 8, none⟩ = some (.int .u64 a.e0) ∧ wq.cell? ⟨b2, 10, none⟩ = some (.int .u64 a.m0) ∧ wq.cell? ⟨b2, 18, none⟩ = some (.int .u64 a.a0) ∧ wq.cell? ⟨b2, 12, none⟩ = some (.int .u64 a.n0x) ∧ wq.cell? ⟨b2, 13, none⟩ = some (.int .u64 a.n0y) ∧ wq.cell? ⟨b2, 14, none⟩ = some (.slice a.s0 a.l0 a.c0) ∧ wq.cell? ⟨b3, 8, none⟩ = some (.int .u64 a.e0) ∧ wq.cell? ⟨b3, 10, none⟩ = some (.int .u64 a.m0) ∧ wq.cell? ⟨b3, 18, none⟩ = some (.int .u64 a.a0) ∧ wq.cell? ⟨b3, 12, none⟩ = some (.int .u64 a.n0x) ∧ wq.cell? ⟨b3, 13, none⟩ = some (.int .u64 a.n0y) ∧ wq.cell? ⟨b3, 14, none⟩ = some (.slice p0 n0 q0) ∧ (convert 26 9 (.slice a.s0 a.l0 a.c0)).run Try.prog wq = .ok (.string (strB L0)) wq ∧ (convert 26 9 (.slice p0 n0 q0)).run Try.prog wq = .ok (.string (strB L0)) wq ∧ HR w wq [(b3, txC (likeD a p0 n0 q0 p1 n1 q1), 37), (b2, txC a, 37)]) (by kernel_rfl) ?_ (fun hHeld => ?_)
      · exact ⟨HR.cell (HR.drew H1.out) (b := b2) (cs := txC a) (t := 37) (by simp) 8 rfl, HR.cell (HR.drew H1.out) (b := b2) (cs := txC a) (t := 37) (by simp) 10 rfl, HR.cell (HR.drew H1.out) (b := b2) (cs := txC a) (t := 37) (by simp) 18 rfl, HR.cell (HR.drew H1.out) (b := b2) (cs := txC a) (t := 37) (by simp) 12 rfl, HR.cell (HR.drew H1.out) (b := b2) (cs := txC a) (t := 37) (by simp) 13 rfl, HR.cell (HR.drew H1.out) (b := b2) (cs := txC a) (t := 37) (by simp) 14 rfl, HR.cell (HR.drew H1.out) (b := b3) (cs := txC (likeD a p0 n0 q0 p1 n1 q1)) (t := 37) (by simp) 8 rfl, HR.cell (HR.drew H1.out) (b := b3) (cs := txC (likeD a p0 n0 q0 p1 n1 q1)) (t := 37) (by simp) 10 rfl, HR.cell (HR.drew H1.out) (b := b3) (cs := txC (likeD a p0 n0 q0 p1 n1 q1)) (t := 37) (by simp) 18 rfl, HR.cell (HR.drew H1.out) (b := b3) (cs := txC (likeD a p0 n0 q0 p1 n1 q1)) (t := 37) (by simp) 12 rfl, HR.cell (HR.drew H1.out) (b := b3) (cs := txC (likeD a p0 n0 q0 p1 n1 q1)) (t := 37) (by simp) 13 rfl, HR.cell (HR.drew H1.out) (b := b3) (cs := txC (likeD a p0 n0 q0 p1 n1 q1)) (t := 37) (by simp) 14 rfl, (S0.out.below (HR.drew H1.out).2).convN hn.out.1, (T0.out.below (HR.drew H1.out).2).convN hn.out.2.2.1, HR.drew H1.out⟩
      refine tk 0 hHeld ?_; refine tk 1 hHeld ?_; refine tk 2 hHeld ?_; refine tk 3 hHeld ?_; refine tk 4 hHeld ?_; refine tk 5 hHeld ?_; refine tk 6 hHeld ?_; refine tk 7 hHeld ?_; refine tk 8 hHeld ?_; refine tk 9 hHeld ?_; refine tk 10 hHeld ?_; refine tk 11 hHeld ?_; refine tk 12 hHeld ?_; refine tk 13 hHeld ?_; refine tk 14 hHeld ?_; refine tk 15 hHeld ?_; refine tk 16 hHeld ?_; refine tk 17 hHeld ?_; refine tk 18 hHeld ?_; refine tk 19 hHeld ?_; refine tk 20 hHeld ?_; refine tk 21 hHeld ?_; refine tk 22 hHeld ?_; refine tk 23 hHeld ?_; refine tk 24 hHeld ?_; refine tk 25 hHeld ?_; refine tk 26 hHeld ?_; refine tk 27 hHeld ?_; refine tk 28 hHeld ?_; refine tk 29 hHeld ?_; refine tk 30 hHeld ?_; refine tk 31 hHeld ?_; refine tk 32 hHeld ?_; refine tk 33 hHeld ?_; refine tk 34 hHeld ?_; refine tk 35 hHeld ?_; refine tk 36 hHeld ?_; refine tk 37 hHeld ?_; refine tk 38 hHeld ?_; refine tk 39 hHeld ?_; refine tk 40 hHeld ?_; refine tk 41 hHeld ?_; refine tk 42 hHeld ?_; refine tk 43 hHeld ?_; refine tk 44 hHeld ?_; refine tk 45 hHeld ?_; refine tk 46 hHeld ?_; refine tk 47 hHeld ?_; refine tk 48 hHeld ?_; refine tk 49 hHeld ?_; refine tk 50 hHeld ?_; refine tk 51 hHeld ?_; refine tk 52 hHeld ?_; refine tk 53 hHeld ?_; refine tk 54 hHeld ?_; refine tk 55 hHeld ?_; refine tk 56 hHeld ?_; refine tk 57 hHeld ?_; refine tk 58 hHeld ?_
      refine wpAnyH_done (by kernel_rfl) (NoPanic.normal ?_) _
      have HL := Lib.hid hHeld.2.2.2.2.2.2.2.2.2.2.2.2.2.2
      clear hHeld H1
      go_wp2_with fail
      go_roundw
      case rel => exact ⟨1, by omega, rfl, HL⟩
      case measure => simp [intOf]
    · go_upto_region 4 with fail
      refine wp_region_noPanic ?_
      refine wp_region_held_drew (S := fun wq => wq.cell? ⟨b2, 9, none⟩ = some (.int .u64 a.e1) ∧ wq.cell? ⟨b2, 11, none⟩ = some (.int .u64 a.m1) ∧ wq.cell? ⟨b2, 19, none⟩ = some (.int .u64 a.a1) ∧ wq.cell? ⟨b2, 15, none⟩ = some (.int .u64 a.n1x) ∧ wq.cell? ⟨b2, 16, none⟩ = some (.int .u64 a.n1y) ∧ wq.cell? ⟨b2, 17, none⟩ = some (.slice a.s1 a.l1 a.c1) ∧ wq.cell? ⟨b3, 9, none⟩ = some (.int .u64 a.e1) ∧ wq.cell? ⟨b3, 11, none⟩ = some (.int .u64 a.m1) ∧ wq.cell? ⟨b3, 19, none⟩ = some (.int .u64 a.a1) ∧ wq.cell? ⟨b3, 15, none⟩ = some (.int .u64 a.n1x) ∧ wq.cell? ⟨b3, 16, none⟩ = some (.int .u64 a.n1y) ∧ wq.cell? ⟨b3, 17, none⟩ = some (.slice p1 n1 q1) ∧ (convert 26 9 (.slice a.s1 a.l1 a.c1)).run Try.prog wq = .ok (.string (strB L1)) wq ∧ (convert 26 9 (.slice p1 n1 q1)).run Try.prog wq = .ok (.string (strB L1)) wq ∧ HR w wq [(b3, txC (likeD a p0 n0 q0 p1 n1 q1), 37), (b2, txC a, 37)]) (by kernel_rfl) ?_ (fun hHeld => ?_)
      · exact ⟨HR.cell (HR.drew H1.out) (b := b2) (cs := txC a) (t := 37) (by simp) 9 rfl, HR.cell (HR.drew H1.out) (b := b2) (cs := txC a) (t := 37) (by simp) 11 rfl, HR.cell (HR.drew H1.out) (b := b2) (cs := txC a) (t := 37) (by simp) 19 rfl, HR.cell (HR.drew H1.out) (b := b2) (cs := txC a) (t := 37) (by simp) 15 rfl, HR.cell (HR.drew H1.out) (b := b2) (cs := txC a) (t := 37) (by simp) 16 rfl, HR.cell (HR.drew H1.out) (b := b2) (cs := txC a) (t := 37) (by simp) 17 rfl, HR.cell (HR.drew H1.out) (b := b3) (cs := txC (likeD a p0 n0 q0 p1 n1 q1)) (t := 37) (by simp) 9 rfl, HR.cell (HR.drew H1.out) (b := b3) (cs := txC (likeD a p0 n0 q0 p1 n1 q1)) (t := 37) (by simp) 11 rfl, HR.cell (HR.drew H1.out) (b := b3) (cs := txC (likeD a p0 n0 q0 p1 n1 q1)) (t := 37) (by simp) 19 rfl, HR.cell (HR.drew H1.out) (b := b3) (cs := txC (likeD a p0 n0 q0 p1 n1 q1)) (t := 37) (by simp) 15 rfl, HR.cell (HR.drew H1.out) (b := b3) (cs := txC (likeD a p0 n0 q0 p1 n1 q1)) (t := 37) (by simp) 16 rfl, HR.cell (HR.drew H1.out) (b := b3) (cs := txC (likeD a p0 n0 q0 p1 n1 q1)) (t := 37) (by simp) 17 rfl, (S1.out.below (HR.drew H1.out).2).convN hn.out.2.1, (T1.out.below (HR.drew H1.out).2).convN hn.out.2.2.2, HR.drew H1.out⟩
      refine tk 0 hHeld ?_; refine tk 1 hHeld ?_; refine tk 2 hHeld ?_; refine tk 3 hHeld ?_; refine tk 4 hHeld ?_; refine tk 5 hHeld ?_; refine tk 6 hHeld ?_; refine tk 7 hHeld ?_; refine tk 8 hHeld ?_; refine tk 9 hHeld ?_; refine tk 10 hHeld ?_; refine tk 11 hHeld ?_; refine tk 12 hHeld ?_; refine tk 13 hHeld ?_; refine tk 14 hHeld ?_; refine tk 15 hHeld ?_; refine tk 16 hHeld ?_; refine tk 17 hHeld ?_; refine tk 18 hHeld ?_; refine tk 19 hHeld ?_; refine tk 20 hHeld ?_; refine tk 21 hHeld ?_; refine tk 22 hHeld ?_; refine tk 23 hHeld ?_; refine tk 24 hHeld ?_; refine tk 25 hHeld ?_; refine tk 26 hHeld ?_; refine tk 27 hHeld ?_; refine tk 28 hHeld ?_; refine tk 29 hHeld ?_; refine tk 30 hHeld ?_; refine tk 31 hHeld ?_; refine tk 32 hHeld ?_; refine tk 33 hHeld ?_; refine tk 34 hHeld ?_; refine tk 35 hHeld ?_; refine tk 36 hHeld ?_; refine tk 37 hHeld ?_; refine tk 38 hHeld ?_; refine tk 39 hHeld ?_; refine tk 40 hHeld ?_; refine tk 41 hHeld ?_; refine tk 42 hHeld ?_; refine tk 43 hHeld ?_; refine tk 44 hHeld ?_; refine tk 45 hHeld ?_; refine tk 46 hHeld ?_; refine tk 47 hHeld ?_; refine tk 48 hHeld ?_; refine tk 49 hHeld ?_; refine tk 50 hHeld ?_; refine tk 51 hHeld ?_; refine tk 52 hHeld ?_; refine tk 53 hHeld ?_; refine tk 54 hHeld ?_; refine tk 55 hHeld ?_; refine tk 56 hHeld ?_; refine tk 57 hHeld ?_; refine tk 58 hHeld ?_
      refine wpAnyH_done (by kernel_rfl) (NoPanic.normal ?_) _
      have HL := Lib.hid hHeld.2.2.2.2.2.2.2.2.2.2.2.2.2.2
      clear hHeld H1
      go_wp2_with fail
      go_roundw
      case rel => exact ⟨2, by omega, rfl, HL⟩
      case measure => simp [intOf]
    · have ka0 := H1.out.cell (b := b2) (cs := txC a) (t := 37) (by simp) 0 rfl
      have kb0 := H1.out.cell (b := b3) (cs := txC (likeD a p0 n0 q0 p1 n1 q1)) (t := 37) (by simp) 0 rfl
      have ka1 := H1.out.cell (b := b2) (cs := txC a) (t := 37) (by simp) 1 rfl
      have kb1 := H1.out.cell (b := b3) (cs := txC (likeD a p0 n0 q0 p1 n1 q1)) (t := 37) (by simp) 1 rfl
      have ka2 := H1.out.cell (b := b2) (cs := txC a) (t := 37) (by simp) 2 rfl
      have kb2 := H1.out.cell (b := b3) (cs := txC (likeD a p0 n0 q0 p1 n1 q1)) (t := 37) (by simp) 2 rfl
      have ka3 := H1.out.cell (b := b2) (cs := txC a) (t := 37) (by simp) 3 rfl
      have kb3 := H1.out.cell (b := b3) (cs := txC (likeD a p0 n0 q0 p1 n1 q1)) (t := 37) (by simp) 3 rfl
      have ka4 := H1.out.cell (b := b2) (cs := txC a) (t := 37) (by simp) 4 rfl
      have kb4 := H1.out.cell (b := b3) (cs := txC (likeD a p0 n0 q0 p1 n1 q1)) (t := 37) (by simp) 4 rfl
      have ka5 := H1.out.cell (b := b2) (cs := txC a) (t := 37) (by simp) 5 rfl
      have kb5 := H1.out.cell (b := b3) (cs := txC (likeD a p0 n0 q0 p1 n1 q1)) (t := 37) (by simp) 5 rfl
      have ka6 := H1.out.cell (b := b2) (cs := txC a) (t := 37) (by simp) 6 rfl
      have kb6 := H1.out.cell (b := b3) (cs := txC (likeD a p0 n0 q0 p1 n1 q1)) (t := 37) (by simp) 6 rfl
      have ka7 := H1.out.cell (b := b2) (cs := txC a) (t := 37) (by simp) 7 rfl
      have kb7 := H1.out.cell (b := b3) (cs := txC (likeD a p0 n0 q0 p1 n1 q1)) (t := 37) (by simp) 7 rfl
      have ka29 := H1.out.cell (b := b2) (cs := txC a) (t := 37) (by simp) 29 rfl
      have kb29 := H1.out.cell (b := b3) (cs := txC (likeD a p0 n0 q0 p1 n1 q1)) (t := 37) (by simp) 29 rfl
      have ka30 := H1.out.cell (b := b2) (cs := txC a) (t := 37) (by simp) 30 rfl
      have kb30 := H1.out.cell (b := b3) (cs := txC (likeD a p0 n0 q0 p1 n1 q1)) (t := 37) (by simp) 30 rfl
      have ka31 := H1.out.cell (b := b2) (cs := txC a) (t := 37) (by simp) 31 rfl
      have kb31 := H1.out.cell (b := b3) (cs := txC (likeD a p0 n0 q0 p1 n1 q1)) (t := 37) (by simp) 31 rfl
      have und := Try.underlying33
      have ep := fun W => eqPr a.ia a.xa a.ya a.ib a.xb a.yb a.ic a.xc a.yc W
      have ra := (H1.out.row (b := b2) (cs := txC a) (t := 37) (by simp)).part 20 [.bool a.ia, .int .u64 a.xa, .int .u64 a.ya, .bool a.ib, .int .u64 a.xb, .int .u64 a.yb, .bool a.ic, .int .u64 a.xc, .int .u64 a.yc] (fun j v hj => by
        match j, hj with
        | 0, hj | 1, hj | 2, hj | 3, hj | 4, hj | 5, hj | 6, hj | 7, hj | 8, hj => exact hj
        | n + 9, hj => simp at hj)
      have rb := (H1.out.row (b := b3) (cs := txC (likeD a p0 n0 q0 p1 n1 q1)) (t := 37) (by simp)).part 20 [.bool a.ia, .int .u64 a.xa, .int .u64 a.ya, .bool a.ib, .int .u64 a.xb, .int .u64 a.yb, .bool a.ic, .int .u64 a.xc, .int .u64 a.yc] (fun j v hj => by
        match j, hj with
        | 0, hj | 1, hj | 2, hj | 3, hj | 4, hj | 5, hj | 6, hj | 7, hj | 8, hj => exact hj
        | n + 9, hj => simp at hj)
      go_wp2_with (first | (refine wpList_loadm_on rfl _ _ rfl b2 20 rfl [.bool a.ia, .int .u64 a.xa, .int .u64 a.ya, .bool a.ib, .int .u64 a.xb, .int .u64 a.yb, .bool a.ic, .int .u64 a.xc, .int .u64 a.yc] _ ra und rfl sizPR ?_) | (refine wpList_loadm_on rfl _ _ rfl b3 20 rfl [.bool a.ia, .int .u64 a.xa, .int .u64 a.ya, .bool a.ib, .int .u64 a.xb, .int .u64 a.yb, .bool a.ic, .int .u64 a.xc, .int .u64 a.yc] _ rb und rfl sizPR ?_))
      go_ret
      exact ⟨by simp, H1.out.2⟩

end Go.Proofs.Ytkfimfjjmdjbdaa
