import Derived.Test.YtkfimfjjmdjbdaaUn
set_option linter.unusedVariables false
set_option linter.unusedSimpArgs false
set_option linter.unusedSectionVars false
/- Walks: package tx: bytes to a transaction. -/
namespace Go.Proofs.Ytkfimfjjmdjbdaa
open Go.RowKit
set_option linter.unusedVariables false

def RdC (L : List Nat) (t : TxD) (M0 M1 : List Nat) (z : Obol.Rs) : Prop := ∃ s0 s1 s2 s3 s4 s5 s6 s7 s8 s9 s10 s11 s12 s13 s14 s15 s16 s17 s18 s19 : Obol.Rs, (false, L) = s0 ∧ Obol.tkS 8 s0 = s1 ∧ Obol.tkS 8 s1 = s2 ∧ Obol.tkS 8 s2 = s3 ∧ Obol.ptS s3 = s4 ∧ Obol.ptS s4 = s5 ∧ Obol.tkS 8 s5 = s6 ∧ Obol.tkS 8 s6 = s7 ∧ Obol.tkS 8 s7 = s8 ∧ Obol.tkS 8 s8 = s9 ∧ Obol.tkS 8 s9 = s10 ∧ Obol.ptS s10 = s11 ∧ Obol.tkS 32 s11 = s12 ∧ Obol.ptS s12 = s13 ∧ Obol.tkS 32 s13 = s14 ∧ Obol.tkS 8 s14 = s15 ∧ Obol.tkS 8 s15 = s16 ∧ Obol.pfN s16 3 = s17 ∧ Obol.ptS s17 = s18 ∧ Obol.tkS 8 s18 = s19 ∧ s19 = z ∧ Obol.tkM 32 s11 = M0 ∧ Obol.tkM 32 s13 = M1 ∧ ((Obol.rdN s0 : Nat) : Int) = t.root ∧ ((Obol.rdN s1 : Nat) : Int) = t.inn ∧ ((Obol.rdN s2 : Nat) : Int) = t.out ∧ (((Obol.ptP s3).1 : Nat) : Int) = t.fx ∧ (((Obol.ptP s3).2 : Nat) : Int) = t.fy ∧ (((Obol.ptP s4).1 : Nat) : Int) = t.tx ∧ (((Obol.ptP s4).2 : Nat) : Int) = t.ty ∧ ((Obol.rdN s5 : Nat) : Int) = t.seq ∧ ((Obol.rdN s6 : Nat) : Int) = t.e0 ∧ ((Obol.rdN s7 : Nat) : Int) = t.e1 ∧ ((Obol.rdN s8 : Nat) : Int) = t.m0 ∧ ((Obol.rdN s9 : Nat) : Int) = t.m1 ∧ (((Obol.ptP s10).1 : Nat) : Int) = t.n0x ∧ (((Obol.ptP s10).2 : Nat) : Int) = t.n0y ∧ (((Obol.ptP s12).1 : Nat) : Int) = t.n1x ∧ (((Obol.ptP s12).2 : Nat) : Int) = t.n1y ∧ ((Obol.rdN s14 : Nat) : Int) = t.a0 ∧ ((Obol.rdN s15 : Nat) : Int) = t.a1 ∧ (Obol.pfV s16 3 0).1 = t.ia ∧ (((Obol.pfV s16 3 0).2.1 : Nat) : Int) = t.xa ∧ (((Obol.pfV s16 3 0).2.2 : Nat) : Int) = t.ya ∧ (Obol.pfV s16 3 1).1 = t.ib ∧ (((Obol.pfV s16 3 1).2.1 : Nat) : Int) = t.xb ∧ (((Obol.pfV s16 3 1).2.2 : Nat) : Int) = t.yb ∧ (Obol.pfV s16 3 2).1 = t.ic ∧ (((Obol.pfV s16 3 2).2.1 : Nat) : Int) = t.xc ∧ (((Obol.pfV s16 3 2).2.2 : Nat) : Int) = t.yc ∧ (((Obol.ptP s17).1 : Nat) : Int) = t.gx ∧ (((Obol.ptP s17).2 : Nat) : Int) = t.gy ∧ ((Obol.rdN s18 : Nat) : Int) = t.gz
noncomputable def rdRes (t : TxD) (z : Obol.Rs) : Value := if z.1 = true ∨ mayB t = false then .tuple #[.agg #[.int .u64 0, .int .u64 0, .int .u64 0, .int .u64 0, .int .u64 0, .int .u64 0, .int .u64 0, .int .u64 0, .int .u64 0, .int .u64 0, .int .u64 0, .int .u64 0, .int .u64 0, .int .u64 0, .slice none 0 0, .int .u64 0, .int .u64 0, .slice none 0 0, .int .u64 0, .int .u64 0, .bool false, .int .u64 0, .int .u64 0, .bool false, .int .u64 0, .int .u64 0, .bool false, .int .u64 0, .int .u64 0, .int .u64 0, .int .u64 0, .int .u64 0], errV 3] else if 0 < z.2.length then .tuple #[.agg #[.int .u64 0, .int .u64 0, .int .u64 0, .int .u64 0, .int .u64 0, .int .u64 0, .int .u64 0, .int .u64 0, .int .u64 0, .int .u64 0, .int .u64 0, .int .u64 0, .int .u64 0, .int .u64 0, .slice none 0 0, .int .u64 0, .int .u64 0, .slice none 0 0, .int .u64 0, .int .u64 0, .bool false, .int .u64 0, .int .u64 0, .bool false, .int .u64 0, .int .u64 0, .bool false, .int .u64 0, .int .u64 0, .int .u64 0, .int .u64 0, .int .u64 0], errV 4] else .tuple #[txV t, .nilIface]
def TxReadI (L : List Nat) (w : World) (e : Ending) (w' : World) : Prop := ∃ (t : TxD) (M0 M1 : List Nat) (z : Obol.Rs) (b5 br g0 e0 g1 e1 : Nat) (z0 z1 : Array Value), RdC L t M0 M1 z ∧ TxOk t ∧ Below w.heap.size w w' ∧ (t.s0 = some ⟨g0, 0, none⟩ ∧ t.l0 = 32 ∧ t.c0 = e0) ∧ (t.s1 = some ⟨g1, 0, none⟩ ∧ t.l1 = 32 ∧ t.c1 = e1) ∧
    OwF g0 e0 z0 M0 b5 br ∧ OwF g1 e1 z1 M1 b5 br ∧ w.heap.size ≤ br ∧ br < b5 ∧ Row w' g0 z0 5 ∧ Row w' g1 z1 5 ∧ e = .returned (rdRes t z)
set_option maxRecDepth 100000 in
set_option maxHeartbeats 100000000 in
theorem tRead (ao : Option Addr) (n c : Nat) (L : List Nat) (hn : L.length = n) (hb : ∀ i, L.getD i 0 < 256) (w : World) (hS : SlI w.heap.size w ao c L) : Calls Try.prog 15 #[.slice ao n c] w (TxReadI L w) := by
  have S0 := Lib.hid hS
  have hlt0 := Lib.hid (show ∀ i, (((false, L) : Obol.Rs)).2.getD i 0 < 256 from hb)
  subst hn
  clear hS hb
  go_enter Try.func15, Try.ntmps15
  go_upto_region 3 with fail
  have E1 := (((HR.refl w).new #[.int .u64 0, .int .u64 0, .int .u64 0, .int .u64 0, .int .u64 0, .int .u64 0, .int .u64 0, .int .u64 0, .int .u64 0, .int .u64 0, .int .u64 0, .int .u64 0, .int .u64 0, .int .u64 0, .slice none 0 0, .int .u64 0, .int .u64 0, .slice none 0 0, .int .u64 0, .int .u64 0, .bool false, .int .u64 0, .int .u64 0, .bool false, .int .u64 0, .int .u64 0, .bool false, .int .u64 0, .int .u64 0, .int .u64 0, .int .u64 0, .int .u64 0] 37).new #[.slice ao L.length c, .bool false] 73).new #[.int .u64 0, .int .u64 0, .int .u64 0, .int .u64 0, .int .u64 0, .int .u64 0, .int .u64 0, .int .u64 0, .int .u64 0, .int .u64 0, .int .u64 0, .int .u64 0, .int .u64 0, .int .u64 0, .slice none 0 0, .int .u64 0, .int .u64 0, .slice none 0 0, .int .u64 0, .int .u64 0, .bool false, .int .u64 0, .int .u64 0, .bool false, .int .u64 0, .int .u64 0, .bool false, .int .u64 0, .int .u64 0, .int .u64 0, .int .u64 0, .int .u64 0] 37
  simp only [World.size_alloc] at E1
  have hz := E1.2.size
  generalize ((w.alloc (.cells #[.int .u64 0, .int .u64 0, .int .u64 0, .int .u64 0, .int .u64 0, .int .u64 0, .int .u64 0, .int .u64 0, .int .u64 0, .int .u64 0, .int .u64 0, .int .u64 0, .int .u64 0, .int .u64 0, .slice none 0 0, .int .u64 0, .int .u64 0, .slice none 0 0, .int .u64 0, .int .u64 0, .bool false, .int .u64 0, .int .u64 0, .bool false, .int .u64 0, .int .u64 0, .bool false, .int .u64 0, .int .u64 0, .int .u64 0, .int .u64 0, .int .u64 0] 37)).alloc (.cells #[.slice ao L.length c, .bool false] 73)).alloc (.cells #[.int .u64 0, .int .u64 0, .int .u64 0, .int .u64 0, .int .u64 0, .int .u64 0, .int .u64 0, .int .u64 0, .int .u64 0, .int .u64 0, .int .u64 0, .int .u64 0, .int .u64 0, .int .u64 0, .slice none 0 0, .int .u64 0, .int .u64 0, .slice none 0 0, .int .u64 0, .int .u64 0, .bool false, .int .u64 0, .int .u64 0, .bool false, .int .u64 0, .int .u64 0, .bool false, .int .u64 0, .int .u64 0, .int .u64 0, .int .u64 0, .int .u64 0] 37) = w3 at E1 hz ⊢
  obtain ⟨b5, hb5⟩ : ∃ z, w.heap.size + 1 + 1 = z := ⟨_, rfl⟩
  obtain ⟨br, hbr⟩ : ∃ z, w.heap.size + 1 = z := ⟨_, rfl⟩
  obtain ⟨b2, hb2⟩ : ∃ z, w.heap.size = z := ⟨_, rfl⟩
  have hbs : Hid (b2 < br ∧ br < b5 ∧ w.heap.size = b2) := Lib.hid (by omega)
  have E2 : HR w w3 [(b5, #[.int .u64 0, .int .u64 0, .int .u64 0, .int .u64 0, .int .u64 0, .int .u64 0, .int .u64 0, .int .u64 0, .int .u64 0, .int .u64 0, .int .u64 0, .int .u64 0, .int .u64 0, .int .u64 0, .slice none 0 0, .int .u64 0, .int .u64 0, .slice none 0 0, .int .u64 0, .int .u64 0, .bool false, .int .u64 0, .int .u64 0, .bool false, .int .u64 0, .int .u64 0, .bool false, .int .u64 0, .int .u64 0, .int .u64 0, .int .u64 0, .int .u64 0], 37), (br, #[.slice ao L.length c, .bool false], 73), (b2, #[.int .u64 0, .int .u64 0, .int .u64 0, .int .u64 0, .int .u64 0, .int .u64 0, .int .u64 0, .int .u64 0, .int .u64 0, .int .u64 0, .int .u64 0, .int .u64 0, .int .u64 0, .int .u64 0, .slice none 0 0, .int .u64 0, .int .u64 0, .slice none 0 0, .int .u64 0, .int .u64 0, .bool false, .int .u64 0, .int .u64 0, .bool false, .int .u64 0, .int .u64 0, .bool false, .int .u64 0, .int .u64 0, .int .u64 0, .int .u64 0, .int .u64 0], 37)] := by rw [← hb5, ← hbr, ← hb2]; exact E1
  rw [hb5, hbr, hb2]
  have H0 : Hid (HR w w3 [(b5, #[.int .u64 0, .int .u64 0, .int .u64 0, .int .u64 0, .int .u64 0, .int .u64 0, .int .u64 0, .int .u64 0, .int .u64 0, .int .u64 0, .int .u64 0, .int .u64 0, .int .u64 0, .int .u64 0, .slice none 0 0, .int .u64 0, .int .u64 0, .slice none 0 0, .int .u64 0, .int .u64 0, .bool false, .int .u64 0, .int .u64 0, .bool false, .int .u64 0, .int .u64 0, .bool false, .int .u64 0, .int .u64 0, .int .u64 0, .int .u64 0, .int .u64 0], 37), (b2, #[.int .u64 0, .int .u64 0, .int .u64 0, .int .u64 0, .int .u64 0, .int .u64 0, .int .u64 0, .int .u64 0, .int .u64 0, .int .u64 0, .int .u64 0, .int .u64 0, .int .u64 0, .int .u64 0, .slice none 0 0, .int .u64 0, .int .u64 0, .slice none 0 0, .int .u64 0, .int .u64 0, .bool false, .int .u64 0, .int .u64 0, .bool false, .int .u64 0, .int .u64 0, .bool false, .int .u64 0, .int .u64 0, .int .u64 0, .int .u64 0, .int .u64 0], 37)]) := Lib.hid (HR.sub E2 (by simp))
  have Rd0 : Hid (RdAt w.heap.size br (false, L) w3) := Lib.hid ⟨ao, c, E2.row (by simp), S0.out.below E2.2, by omega⟩
  replace hb5 := Lib.hid hb5
  replace hbr := Lib.hid hbr
  replace hb2 := Lib.hid hb2
  clear E1 E2 hz
  obtain ⟨s0, hs0⟩ : ∃ s : Obol.Rs, (false, L) = s := ⟨_, rfl⟩
  rw [hs0] at Rd0 hlt0
  replace hs0 := Lib.hid hs0
  go_wp2_with fail
  refine (rNumber w.heap.size br s0 hlt0.out _ Rd0.out).mono ?_
  rintro e q1 ⟨rfl, hRd, hT⟩
  have H101 : Hid (HR w q1 [(b5, #[.int .u64 0, .int .u64 0, .int .u64 0, .int .u64 0, .int .u64 0, .int .u64 0, .int .u64 0, .int .u64 0, .int .u64 0, .int .u64 0, .int .u64 0, .int .u64 0, .int .u64 0, .int .u64 0, .slice none 0 0, .int .u64 0, .int .u64 0, .slice none 0 0, .int .u64 0, .int .u64 0, .bool false, .int .u64 0, .int .u64 0, .bool false, .int .u64 0, .int .u64 0, .bool false, .int .u64 0, .int .u64 0, .int .u64 0, .int .u64 0, .int .u64 0], 37), (b2, #[.int .u64 0, .int .u64 0, .int .u64 0, .int .u64 0, .int .u64 0, .int .u64 0, .int .u64 0, .int .u64 0, .int .u64 0, .int .u64 0, .int .u64 0, .int .u64 0, .int .u64 0, .int .u64 0, .slice none 0 0, .int .u64 0, .int .u64 0, .slice none 0 0, .int .u64 0, .int .u64 0, .bool false, .int .u64 0, .int .u64 0, .bool false, .int .u64 0, .int .u64 0, .bool false, .int .u64 0, .int .u64 0, .int .u64 0, .int .u64 0, .int .u64 0], 37)]) := Lib.hid (HR.tch H0.out hT (by have := hbs.out; simp; omega) (by have := hbs.out; omega))
  have hlt' := Obol.tkS_lt 8 hlt0.out
  obtain ⟨s1, hs1⟩ : ∃ s, Obol.tkS 8 s0 = s := ⟨_, rfl⟩
  rw [hs1] at hRd hlt'
  have Rd1 := Lib.hid hRd
  have hlt1 := Lib.hid hlt'
  replace hs1 := Lib.hid hs1
  clear hRd hT hlt' H0 Rd0
  obtain ⟨v0, hvv0⟩ : ∃ v : Int, ((Obol.rdN s0 : Nat) : Int) = v := ⟨_, rfl⟩
  rw [hvv0]
  replace hvv0 := Lib.hid hvv0
  go_wp2_with fail
  refine (rNumber w.heap.size br s1 hlt1.out _ Rd1.out).mono ?_
  rintro e q2 ⟨rfl, hRd, hT⟩
  have H102 : Hid (HR w q2 [(b5, #[.int .u64 0, .int .u64 0, .int .u64 0, .int .u64 0, .int .u64 0, .int .u64 0, .int .u64 0, .int .u64 0, .int .u64 0, .int .u64 0, .int .u64 0, .int .u64 0, .int .u64 0, .int .u64 0, .slice none 0 0, .int .u64 0, .int .u64 0, .slice none 0 0, .int .u64 0, .int .u64 0, .bool false, .int .u64 0, .int .u64 0, .bool false, .int .u64 0, .int .u64 0, .bool false, .int .u64 0, .int .u64 0, .int .u64 0, .int .u64 0, .int .u64 0], 37), (b2, #[.int .u64 0, .int .u64 0, .int .u64 0, .int .u64 0, .int .u64 0, .int .u64 0, .int .u64 0, .int .u64 0, .int .u64 0, .int .u64 0, .int .u64 0, .int .u64 0, .int .u64 0, .int .u64 0, .slice none 0 0, .int .u64 0, .int .u64 0, .slice none 0 0, .int .u64 0, .int .u64 0, .bool false, .int .u64 0, .int .u64 0, .bool false, .int .u64 0, .int .u64 0, .bool false, .int .u64 0, .int .u64 0, .int .u64 0, .int .u64 0, .int .u64 0], 37)]) := Lib.hid (HR.tch H101.out hT (by have := hbs.out; simp; omega) (by have := hbs.out; omega))
  have hlt' := Obol.tkS_lt 8 hlt1.out
  obtain ⟨s2, hs2⟩ : ∃ s, Obol.tkS 8 s1 = s := ⟨_, rfl⟩
  rw [hs2] at hRd hlt'
  have Rd2 := Lib.hid hRd
  have hlt2 := Lib.hid hlt'
  replace hs2 := Lib.hid hs2
  clear hRd hT hlt' H101 Rd1
  obtain ⟨v1, hvv1⟩ : ∃ v : Int, ((Obol.rdN s1 : Nat) : Int) = v := ⟨_, rfl⟩
  rw [hvv1]
  replace hvv1 := Lib.hid hvv1
  go_wp2_with fail
  refine (rNumber w.heap.size br s2 hlt2.out _ Rd2.out).mono ?_
  rintro e q3 ⟨rfl, hRd, hT⟩
  have H103 : Hid (HR w q3 [(b5, #[.int .u64 0, .int .u64 0, .int .u64 0, .int .u64 0, .int .u64 0, .int .u64 0, .int .u64 0, .int .u64 0, .int .u64 0, .int .u64 0, .int .u64 0, .int .u64 0, .int .u64 0, .int .u64 0, .slice none 0 0, .int .u64 0, .int .u64 0, .slice none 0 0, .int .u64 0, .int .u64 0, .bool false, .int .u64 0, .int .u64 0, .bool false, .int .u64 0, .int .u64 0, .bool false, .int .u64 0, .int .u64 0, .int .u64 0, .int .u64 0, .int .u64 0], 37), (b2, #[.int .u64 0, .int .u64 0, .int .u64 0, .int .u64 0, .int .u64 0, .int .u64 0, .int .u64 0, .int .u64 0, .int .u64 0, .int .u64 0, .int .u64 0, .int .u64 0, .int .u64 0, .int .u64 0, .slice none 0 0, .int .u64 0, .int .u64 0, .slice none 0 0, .int .u64 0, .int .u64 0, .bool false, .int .u64 0, .int .u64 0, .bool false, .int .u64 0, .int .u64 0, .bool false, .int .u64 0, .int .u64 0, .int .u64 0, .int .u64 0, .int .u64 0], 37)]) := Lib.hid (HR.tch H102.out hT (by have := hbs.out; simp; omega) (by have := hbs.out; omega))
  have hlt' := Obol.tkS_lt 8 hlt2.out
  obtain ⟨s3, hs3⟩ : ∃ s, Obol.tkS 8 s2 = s := ⟨_, rfl⟩
  rw [hs3] at hRd hlt'
  have Rd3 := Lib.hid hRd
  have hlt3 := Lib.hid hlt'
  replace hs3 := Lib.hid hs3
  clear hRd hT hlt' H102 Rd2
  obtain ⟨v2, hvv2⟩ : ∃ v : Int, ((Obol.rdN s2 : Nat) : Int) = v := ⟨_, rfl⟩
  rw [hvv2]
  replace hvv2 := Lib.hid hvv2
  have k_root := H103.out.cell (b := b5) (cs := #[.int .u64 0, .int .u64 0, .int .u64 0, .int .u64 0, .int .u64 0, .int .u64 0, .int .u64 0, .int .u64 0, .int .u64 0, .int .u64 0, .int .u64 0, .int .u64 0, .int .u64 0, .int .u64 0, .slice none 0 0, .int .u64 0, .int .u64 0, .slice none 0 0, .int .u64 0, .int .u64 0, .bool false, .int .u64 0, .int .u64 0, .bool false, .int .u64 0, .int .u64 0, .bool false, .int .u64 0, .int .u64 0, .int .u64 0, .int .u64 0, .int .u64 0]) (t := 37) (by simp) 0 rfl
  have f_root := H103.out.free (b := b5) (cs := #[.int .u64 0, .int .u64 0, .int .u64 0, .int .u64 0, .int .u64 0, .int .u64 0, .int .u64 0, .int .u64 0, .int .u64 0, .int .u64 0, .int .u64 0, .int .u64 0, .int .u64 0, .int .u64 0, .slice none 0 0, .int .u64 0, .int .u64 0, .slice none 0 0, .int .u64 0, .int .u64 0, .bool false, .int .u64 0, .int .u64 0, .bool false, .int .u64 0, .int .u64 0, .bool false, .int .u64 0, .int .u64 0, .int .u64 0, .int .u64 0, .int .u64 0]) (t := 37) (by simp) 0
  have k_inn := H103.out.cell (b := b5) (cs := #[.int .u64 0, .int .u64 0, .int .u64 0, .int .u64 0, .int .u64 0, .int .u64 0, .int .u64 0, .int .u64 0, .int .u64 0, .int .u64 0, .int .u64 0, .int .u64 0, .int .u64 0, .int .u64 0, .slice none 0 0, .int .u64 0, .int .u64 0, .slice none 0 0, .int .u64 0, .int .u64 0, .bool false, .int .u64 0, .int .u64 0, .bool false, .int .u64 0, .int .u64 0, .bool false, .int .u64 0, .int .u64 0, .int .u64 0, .int .u64 0, .int .u64 0]) (t := 37) (by simp) 1 rfl
  have f_inn := H103.out.free (b := b5) (cs := #[.int .u64 0, .int .u64 0, .int .u64 0, .int .u64 0, .int .u64 0, .int .u64 0, .int .u64 0, .int .u64 0, .int .u64 0, .int .u64 0, .int .u64 0, .int .u64 0, .int .u64 0, .int .u64 0, .slice none 0 0, .int .u64 0, .int .u64 0, .slice none 0 0, .int .u64 0, .int .u64 0, .bool false, .int .u64 0, .int .u64 0, .bool false, .int .u64 0, .int .u64 0, .bool false, .int .u64 0, .int .u64 0, .int .u64 0, .int .u64 0, .int .u64 0]) (t := 37) (by simp) 1
  have k_out := H103.out.cell (b := b5) (cs := #[.int .u64 0, .int .u64 0, .int .u64 0, .int .u64 0, .int .u64 0, .int .u64 0, .int .u64 0, .int .u64 0, .int .u64 0, .int .u64 0, .int .u64 0, .int .u64 0, .int .u64 0, .int .u64 0, .slice none 0 0, .int .u64 0, .int .u64 0, .slice none 0 0, .int .u64 0, .int .u64 0, .bool false, .int .u64 0, .int .u64 0, .bool false, .int .u64 0, .int .u64 0, .bool false, .int .u64 0, .int .u64 0, .int .u64 0, .int .u64 0, .int .u64 0]) (t := 37) (by simp) 2 rfl
  have f_out := H103.out.free (b := b5) (cs := #[.int .u64 0, .int .u64 0, .int .u64 0, .int .u64 0, .int .u64 0, .int .u64 0, .int .u64 0, .int .u64 0, .int .u64 0, .int .u64 0, .int .u64 0, .int .u64 0, .int .u64 0, .int .u64 0, .slice none 0 0, .int .u64 0, .int .u64 0, .slice none 0 0, .int .u64 0, .int .u64 0, .bool false, .int .u64 0, .int .u64 0, .bool false, .int .u64 0, .int .u64 0, .bool false, .int .u64 0, .int .u64 0, .int .u64 0, .int .u64 0, .int .u64 0]) (t := 37) (by simp) 2
  go_upto_region 4 with fail
  have G1 : Hid (HR w (((q3.setCell ⟨b5, 0, none⟩ (.int .u64 v0)).setCell ⟨b5, 1, none⟩ (.int .u64 v1)).setCell ⟨b5, 2, none⟩ (.int .u64 v2)) [(b5, #[.int .u64 v0, .int .u64 v1, .int .u64 v2, .int .u64 0, .int .u64 0, .int .u64 0, .int .u64 0, .int .u64 0, .int .u64 0, .int .u64 0, .int .u64 0, .int .u64 0, .int .u64 0, .int .u64 0, .slice none 0 0, .int .u64 0, .int .u64 0, .slice none 0 0, .int .u64 0, .int .u64 0, .bool false, .int .u64 0, .int .u64 0, .bool false, .int .u64 0, .int .u64 0, .bool false, .int .u64 0, .int .u64 0, .int .u64 0, .int .u64 0, .int .u64 0], 37), (b2, #[.int .u64 0, .int .u64 0, .int .u64 0, .int .u64 0, .int .u64 0, .int .u64 0, .int .u64 0, .int .u64 0, .int .u64 0, .int .u64 0, .int .u64 0, .int .u64 0, .int .u64 0, .int .u64 0, .slice none 0 0, .int .u64 0, .int .u64 0, .slice none 0 0, .int .u64 0, .int .u64 0, .bool false, .int .u64 0, .int .u64 0, .bool false, .int .u64 0, .int .u64 0, .bool false, .int .u64 0, .int .u64 0, .int .u64 0, .int .u64 0, .int .u64 0], 37)]) := Lib.hid (HR.put (HR.put (HR.put (H103.out) (by have := hbs.out; simp; omega) (by have := hbs.out; omega) 0 (.int .u64 v0)) (by have := hbs.out; simp; omega) (by have := hbs.out; omega) 1 (.int .u64 v1)) (by have := hbs.out; simp; omega) (by have := hbs.out; omega) 2 (.int .u64 v2))
  have Q1 : Hid (RdAt w.heap.size br s3 (((q3.setCell ⟨b5, 0, none⟩ (.int .u64 v0)).setCell ⟨b5, 1, none⟩ (.int .u64 v1)).setCell ⟨b5, 2, none⟩ (.int .u64 v2))) := Lib.hid (RdAt.other (RdAt.other (RdAt.other (Rd3.out) (by have := hbs.out; omega) (by have := hbs.out; omega)) (by have := hbs.out; omega) (by have := hbs.out; omega)) (by have := hbs.out; omega) (by have := hbs.out; omega))
  clear k_root f_root k_inn f_inn k_out f_out H103 Rd3
  generalize (((q3.setCell ⟨b5, 0, none⟩ (.int .u64 v0)).setCell ⟨b5, 1, none⟩ (.int .u64 v1)).setCell ⟨b5, 2, none⟩ (.int .u64 v2)) = m1 at G1 Q1 ⊢
  go_wp2_with fail
  refine (rPoint w.heap.size br s3 hlt3.out _ Q1.out).mono ?_
  rintro e q4 ⟨rfl, hRd, hT⟩
  have H104 : Hid (HR w q4 [(b5, #[.int .u64 v0, .int .u64 v1, .int .u64 v2, .int .u64 0, .int .u64 0, .int .u64 0, .int .u64 0, .int .u64 0, .int .u64 0, .int .u64 0, .int .u64 0, .int .u64 0, .int .u64 0, .int .u64 0, .slice none 0 0, .int .u64 0, .int .u64 0, .slice none 0 0, .int .u64 0, .int .u64 0, .bool false, .int .u64 0, .int .u64 0, .bool false, .int .u64 0, .int .u64 0, .bool false, .int .u64 0, .int .u64 0, .int .u64 0, .int .u64 0, .int .u64 0], 37), (b2, #[.int .u64 0, .int .u64 0, .int .u64 0, .int .u64 0, .int .u64 0, .int .u64 0, .int .u64 0, .int .u64 0, .int .u64 0, .int .u64 0, .int .u64 0, .int .u64 0, .int .u64 0, .int .u64 0, .slice none 0 0, .int .u64 0, .int .u64 0, .slice none 0 0, .int .u64 0, .int .u64 0, .bool false, .int .u64 0, .int .u64 0, .bool false, .int .u64 0, .int .u64 0, .bool false, .int .u64 0, .int .u64 0, .int .u64 0, .int .u64 0, .int .u64 0], 37)]) := Lib.hid (HR.tch G1.out hT (by have := hbs.out; simp; omega) (by have := hbs.out; omega))
  have hlt' := Obol.ptS_lt hlt3.out
  obtain ⟨s4, hs4⟩ : ∃ s, Obol.ptS s3 = s := ⟨_, rfl⟩
  rw [hs4] at hRd hlt'
  have Rd4 := Lib.hid hRd
  have hlt4 := Lib.hid hlt'
  replace hs4 := Lib.hid hs4
  clear hRd hT hlt' G1 Q1
  obtain ⟨v3, hvv3⟩ : ∃ v : Int, (((Obol.ptP s3).1 : Nat) : Int) = v := ⟨_, rfl⟩
  rw [hvv3]
  replace hvv3 := Lib.hid hvv3
  obtain ⟨v4, hvv4⟩ : ∃ v : Int, (((Obol.ptP s3).2 : Nat) : Int) = v := ⟨_, rfl⟩
  rw [hvv4]
  replace hvv4 := Lib.hid hvv4
  go_wp2_with fail
  refine (rPoint w.heap.size br s4 hlt4.out _ Rd4.out).mono ?_
  rintro e q5 ⟨rfl, hRd, hT⟩
  have H105 : Hid (HR w q5 [(b5, #[.int .u64 v0, .int .u64 v1, .int .u64 v2, .int .u64 0, .int .u64 0, .int .u64 0, .int .u64 0, .int .u64 0, .int .u64 0, .int .u64 0, .int .u64 0, .int .u64 0, .int .u64 0, .int .u64 0, .slice none 0 0, .int .u64 0, .int .u64 0, .slice none 0 0, .int .u64 0, .int .u64 0, .bool false, .int .u64 0, .int .u64 0, .bool false, .int .u64 0, .int .u64 0, .bool false, .int .u64 0, .int .u64 0, .int .u64 0, .int .u64 0, .int .u64 0], 37), (b2, #[.int .u64 0, .int .u64 0, .int .u64 0, .int .u64 0, .int .u64 0, .int .u64 0, .int .u64 0, .int .u64 0, .int .u64 0, .int .u64 0, .int .u64 0, .int .u64 0, .int .u64 0, .int .u64 0, .slice none 0 0, .int .u64 0, .int .u64 0, .slice none 0 0, .int .u64 0, .int .u64 0, .bool false, .int .u64 0, .int .u64 0, .bool false, .int .u64 0, .int .u64 0, .bool false, .int .u64 0, .int .u64 0, .int .u64 0, .int .u64 0, .int .u64 0], 37)]) := Lib.hid (HR.tch H104.out hT (by have := hbs.out; simp; omega) (by have := hbs.out; omega))
  have hlt' := Obol.ptS_lt hlt4.out
  obtain ⟨s5, hs5⟩ : ∃ s, Obol.ptS s4 = s := ⟨_, rfl⟩
  rw [hs5] at hRd hlt'
  have Rd5 := Lib.hid hRd
  have hlt5 := Lib.hid hlt'
  replace hs5 := Lib.hid hs5
  clear hRd hT hlt' H104 Rd4
  obtain ⟨v5, hvv5⟩ : ∃ v : Int, (((Obol.ptP s4).1 : Nat) : Int) = v := ⟨_, rfl⟩
  rw [hvv5]
  replace hvv5 := Lib.hid hvv5
  obtain ⟨v6, hvv6⟩ : ∃ v : Int, (((Obol.ptP s4).2 : Nat) : Int) = v := ⟨_, rfl⟩
  rw [hvv6]
  replace hvv6 := Lib.hid hvv6
  have k_fx := H105.out.cell (b := b5) (cs := #[.int .u64 v0, .int .u64 v1, .int .u64 v2, .int .u64 0, .int .u64 0, .int .u64 0, .int .u64 0, .int .u64 0, .int .u64 0, .int .u64 0, .int .u64 0, .int .u64 0, .int .u64 0, .int .u64 0, .slice none 0 0, .int .u64 0, .int .u64 0, .slice none 0 0, .int .u64 0, .int .u64 0, .bool false, .int .u64 0, .int .u64 0, .bool false, .int .u64 0, .int .u64 0, .bool false, .int .u64 0, .int .u64 0, .int .u64 0, .int .u64 0, .int .u64 0]) (t := 37) (by simp) 3 rfl
  have f_fx := H105.out.free (b := b5) (cs := #[.int .u64 v0, .int .u64 v1, .int .u64 v2, .int .u64 0, .int .u64 0, .int .u64 0, .int .u64 0, .int .u64 0, .int .u64 0, .int .u64 0, .int .u64 0, .int .u64 0, .int .u64 0, .int .u64 0, .slice none 0 0, .int .u64 0, .int .u64 0, .slice none 0 0, .int .u64 0, .int .u64 0, .bool false, .int .u64 0, .int .u64 0, .bool false, .int .u64 0, .int .u64 0, .bool false, .int .u64 0, .int .u64 0, .int .u64 0, .int .u64 0, .int .u64 0]) (t := 37) (by simp) 3
  have k_fy := H105.out.cell (b := b5) (cs := #[.int .u64 v0, .int .u64 v1, .int .u64 v2, .int .u64 0, .int .u64 0, .int .u64 0, .int .u64 0, .int .u64 0, .int .u64 0, .int .u64 0, .int .u64 0, .int .u64 0, .int .u64 0, .int .u64 0, .slice none 0 0, .int .u64 0, .int .u64 0, .slice none 0 0, .int .u64 0, .int .u64 0, .bool false, .int .u64 0, .int .u64 0, .bool false, .int .u64 0, .int .u64 0, .bool false, .int .u64 0, .int .u64 0, .int .u64 0, .int .u64 0, .int .u64 0]) (t := 37) (by simp) 4 rfl
  have f_fy := H105.out.free (b := b5) (cs := #[.int .u64 v0, .int .u64 v1, .int .u64 v2, .int .u64 0, .int .u64 0, .int .u64 0, .int .u64 0, .int .u64 0, .int .u64 0, .int .u64 0, .int .u64 0, .int .u64 0, .int .u64 0, .int .u64 0, .slice none 0 0, .int .u64 0, .int .u64 0, .slice none 0 0, .int .u64 0, .int .u64 0, .bool false, .int .u64 0, .int .u64 0, .bool false, .int .u64 0, .int .u64 0, .bool false, .int .u64 0, .int .u64 0, .int .u64 0, .int .u64 0, .int .u64 0]) (t := 37) (by simp) 4
  have k_tx := H105.out.cell (b := b5) (cs := #[.int .u64 v0, .int .u64 v1, .int .u64 v2, .int .u64 0, .int .u64 0, .int .u64 0, .int .u64 0, .int .u64 0, .int .u64 0, .int .u64 0, .int .u64 0, .int .u64 0, .int .u64 0, .int .u64 0, .slice none 0 0, .int .u64 0, .int .u64 0, .slice none 0 0, .int .u64 0, .int .u64 0, .bool false, .int .u64 0, .int .u64 0, .bool false, .int .u64 0, .int .u64 0, .bool false, .int .u64 0, .int .u64 0, .int .u64 0, .int .u64 0, .int .u64 0]) (t := 37) (by simp) 5 rfl
  have f_tx := H105.out.free (b := b5) (cs := #[.int .u64 v0, .int .u64 v1, .int .u64 v2, .int .u64 0, .int .u64 0, .int .u64 0, .int .u64 0, .int .u64 0, .int .u64 0, .int .u64 0, .int .u64 0, .int .u64 0, .int .u64 0, .int .u64 0, .slice none 0 0, .int .u64 0, .int .u64 0, .slice none 0 0, .int .u64 0, .int .u64 0, .bool false, .int .u64 0, .int .u64 0, .bool false, .int .u64 0, .int .u64 0, .bool false, .int .u64 0, .int .u64 0, .int .u64 0, .int .u64 0, .int .u64 0]) (t := 37) (by simp) 5
  have k_ty := H105.out.cell (b := b5) (cs := #[.int .u64 v0, .int .u64 v1, .int .u64 v2, .int .u64 0, .int .u64 0, .int .u64 0, .int .u64 0, .int .u64 0, .int .u64 0, .int .u64 0, .int .u64 0, .int .u64 0, .int .u64 0, .int .u64 0, .slice none 0 0, .int .u64 0, .int .u64 0, .slice none 0 0, .int .u64 0, .int .u64 0, .bool false, .int .u64 0, .int .u64 0, .bool false, .int .u64 0, .int .u64 0, .bool false, .int .u64 0, .int .u64 0, .int .u64 0, .int .u64 0, .int .u64 0]) (t := 37) (by simp) 6 rfl
  have f_ty := H105.out.free (b := b5) (cs := #[.int .u64 v0, .int .u64 v1, .int .u64 v2, .int .u64 0, .int .u64 0, .int .u64 0, .int .u64 0, .int .u64 0, .int .u64 0, .int .u64 0, .int .u64 0, .int .u64 0, .int .u64 0, .int .u64 0, .slice none 0 0, .int .u64 0, .int .u64 0, .slice none 0 0, .int .u64 0, .int .u64 0, .bool false, .int .u64 0, .int .u64 0, .bool false, .int .u64 0, .int .u64 0, .bool false, .int .u64 0, .int .u64 0, .int .u64 0, .int .u64 0, .int .u64 0]) (t := 37) (by simp) 6
  go_upto_region 5 with fail
  have G2 : Hid (HR w ((((q5.setCell ⟨b5, 3, none⟩ (.int .u64 v3)).setCell ⟨b5, 4, none⟩ (.int .u64 v4)).setCell ⟨b5, 5, none⟩ (.int .u64 v5)).setCell ⟨b5, 6, none⟩ (.int .u64 v6)) [(b5, #[.int .u64 v0, .int .u64 v1, .int .u64 v2, .int .u64 v3, .int .u64 v4, .int .u64 v5, .int .u64 v6, .int .u64 0, .int .u64 0, .int .u64 0, .int .u64 0, .int .u64 0, .int .u64 0, .int .u64 0, .slice none 0 0, .int .u64 0, .int .u64 0, .slice none 0 0, .int .u64 0, .int .u64 0, .bool false, .int .u64 0, .int .u64 0, .bool false, .int .u64 0, .int .u64 0, .bool false, .int .u64 0, .int .u64 0, .int .u64 0, .int .u64 0, .int .u64 0], 37), (b2, #[.int .u64 0, .int .u64 0, .int .u64 0, .int .u64 0, .int .u64 0, .int .u64 0, .int .u64 0, .int .u64 0, .int .u64 0, .int .u64 0, .int .u64 0, .int .u64 0, .int .u64 0, .int .u64 0, .slice none 0 0, .int .u64 0, .int .u64 0, .slice none 0 0, .int .u64 0, .int .u64 0, .bool false, .int .u64 0, .int .u64 0, .bool false, .int .u64 0, .int .u64 0, .bool false, .int .u64 0, .int .u64 0, .int .u64 0, .int .u64 0, .int .u64 0], 37)]) := Lib.hid (HR.put (HR.put (HR.put (HR.put (H105.out) (by have := hbs.out; simp; omega) (by have := hbs.out; omega) 3 (.int .u64 v3)) (by have := hbs.out; simp; omega) (by have := hbs.out; omega) 4 (.int .u64 v4)) (by have := hbs.out; simp; omega) (by have := hbs.out; omega) 5 (.int .u64 v5)) (by have := hbs.out; simp; omega) (by have := hbs.out; omega) 6 (.int .u64 v6))
  have Q2 : Hid (RdAt w.heap.size br s5 ((((q5.setCell ⟨b5, 3, none⟩ (.int .u64 v3)).setCell ⟨b5, 4, none⟩ (.int .u64 v4)).setCell ⟨b5, 5, none⟩ (.int .u64 v5)).setCell ⟨b5, 6, none⟩ (.int .u64 v6))) := Lib.hid (RdAt.other (RdAt.other (RdAt.other (RdAt.other (Rd5.out) (by have := hbs.out; omega) (by have := hbs.out; omega)) (by have := hbs.out; omega) (by have := hbs.out; omega)) (by have := hbs.out; omega) (by have := hbs.out; omega)) (by have := hbs.out; omega) (by have := hbs.out; omega))
  clear k_fx f_fx k_fy f_fy k_tx f_tx k_ty f_ty H105 Rd5
  generalize ((((q5.setCell ⟨b5, 3, none⟩ (.int .u64 v3)).setCell ⟨b5, 4, none⟩ (.int .u64 v4)).setCell ⟨b5, 5, none⟩ (.int .u64 v5)).setCell ⟨b5, 6, none⟩ (.int .u64 v6)) = m2 at G2 Q2 ⊢
  go_wp2_with fail
  refine (rNumber w.heap.size br s5 hlt5.out _ Q2.out).mono ?_
  rintro e q6 ⟨rfl, hRd, hT⟩
  have H106 : Hid (HR w q6 [(b5, #[.int .u64 v0, .int .u64 v1, .int .u64 v2, .int .u64 v3, .int .u64 v4, .int .u64 v5, .int .u64 v6, .int .u64 0, .int .u64 0, .int .u64 0, .int .u64 0, .int .u64 0, .int .u64 0, .int .u64 0, .slice none 0 0, .int .u64 0, .int .u64 0, .slice none 0 0, .int .u64 0, .int .u64 0, .bool false, .int .u64 0, .int .u64 0, .bool false, .int .u64 0, .int .u64 0, .bool false, .int .u64 0, .int .u64 0, .int .u64 0, .int .u64 0, .int .u64 0], 37), (b2, #[.int .u64 0, .int .u64 0, .int .u64 0, .int .u64 0, .int .u64 0, .int .u64 0, .int .u64 0, .int .u64 0, .int .u64 0, .int .u64 0, .int .u64 0, .int .u64 0, .int .u64 0, .int .u64 0, .slice none 0 0, .int .u64 0, .int .u64 0, .slice none 0 0, .int .u64 0, .int .u64 0, .bool false, .int .u64 0, .int .u64 0, .bool false, .int .u64 0, .int .u64 0, .bool false, .int .u64 0, .int .u64 0, .int .u64 0, .int .u64 0, .int .u64 0], 37)]) := Lib.hid (HR.tch G2.out hT (by have := hbs.out; simp; omega) (by have := hbs.out; omega))
  have hlt' := Obol.tkS_lt 8 hlt5.out
  obtain ⟨s6, hs6⟩ : ∃ s, Obol.tkS 8 s5 = s := ⟨_, rfl⟩
  rw [hs6] at hRd hlt'
  have Rd6 := Lib.hid hRd
  have hlt6 := Lib.hid hlt'
  replace hs6 := Lib.hid hs6
  clear hRd hT hlt' G2 Q2
  obtain ⟨v7, hvv7⟩ : ∃ v : Int, ((Obol.rdN s5 : Nat) : Int) = v := ⟨_, rfl⟩
  rw [hvv7]
  replace hvv7 := Lib.hid hvv7
  have k_seq := H106.out.cell (b := b5) (cs := #[.int .u64 v0, .int .u64 v1, .int .u64 v2, .int .u64 v3, .int .u64 v4, .int .u64 v5, .int .u64 v6, .int .u64 0, .int .u64 0, .int .u64 0, .int .u64 0, .int .u64 0, .int .u64 0, .int .u64 0, .slice none 0 0, .int .u64 0, .int .u64 0, .slice none 0 0, .int .u64 0, .int .u64 0, .bool false, .int .u64 0, .int .u64 0, .bool false, .int .u64 0, .int .u64 0, .bool false, .int .u64 0, .int .u64 0, .int .u64 0, .int .u64 0, .int .u64 0]) (t := 37) (by simp) 7 rfl
  have f_seq := H106.out.free (b := b5) (cs := #[.int .u64 v0, .int .u64 v1, .int .u64 v2, .int .u64 v3, .int .u64 v4, .int .u64 v5, .int .u64 v6, .int .u64 0, .int .u64 0, .int .u64 0, .int .u64 0, .int .u64 0, .int .u64 0, .int .u64 0, .slice none 0 0, .int .u64 0, .int .u64 0, .slice none 0 0, .int .u64 0, .int .u64 0, .bool false, .int .u64 0, .int .u64 0, .bool false, .int .u64 0, .int .u64 0, .bool false, .int .u64 0, .int .u64 0, .int .u64 0, .int .u64 0, .int .u64 0]) (t := 37) (by simp) 7
  go_upto_region 6 with fail
  have G3 : Hid (HR w (q6.setCell ⟨b5, 7, none⟩ (.int .u64 v7)) [(b5, #[.int .u64 v0, .int .u64 v1, .int .u64 v2, .int .u64 v3, .int .u64 v4, .int .u64 v5, .int .u64 v6, .int .u64 v7, .int .u64 0, .int .u64 0, .int .u64 0, .int .u64 0, .int .u64 0, .int .u64 0, .slice none 0 0, .int .u64 0, .int .u64 0, .slice none 0 0, .int .u64 0, .int .u64 0, .bool false, .int .u64 0, .int .u64 0, .bool false, .int .u64 0, .int .u64 0, .bool false, .int .u64 0, .int .u64 0, .int .u64 0, .int .u64 0, .int .u64 0], 37), (b2, #[.int .u64 0, .int .u64 0, .int .u64 0, .int .u64 0, .int .u64 0, .int .u64 0, .int .u64 0, .int .u64 0, .int .u64 0, .int .u64 0, .int .u64 0, .int .u64 0, .int .u64 0, .int .u64 0, .slice none 0 0, .int .u64 0, .int .u64 0, .slice none 0 0, .int .u64 0, .int .u64 0, .bool false, .int .u64 0, .int .u64 0, .bool false, .int .u64 0, .int .u64 0, .bool false, .int .u64 0, .int .u64 0, .int .u64 0, .int .u64 0, .int .u64 0], 37)]) := Lib.hid (HR.put (H106.out) (by have := hbs.out; simp; omega) (by have := hbs.out; omega) 7 (.int .u64 v7))
  have Q3 : Hid (RdAt w.heap.size br s6 (q6.setCell ⟨b5, 7, none⟩ (.int .u64 v7))) := Lib.hid (RdAt.other (Rd6.out) (by have := hbs.out; omega) (by have := hbs.out; omega))
  clear k_seq f_seq H106 Rd6
  generalize (q6.setCell ⟨b5, 7, none⟩ (.int .u64 v7)) = m3 at G3 Q3 ⊢
  go_upto_region 7 with fail
  have L1 : Hid (HR w (m3.alloc (.cells #[.pointer (some ⟨b5, 8, none⟩), .pointer (some ⟨b5, 10, none⟩)] 75)) [(b5, #[.int .u64 v0, .int .u64 v1, .int .u64 v2, .int .u64 v3, .int .u64 v4, .int .u64 v5, .int .u64 v6, .int .u64 v7, .int .u64 0, .int .u64 0, .int .u64 0, .int .u64 0, .int .u64 0, .int .u64 0, .slice none 0 0, .int .u64 0, .int .u64 0, .slice none 0 0, .int .u64 0, .int .u64 0, .bool false, .int .u64 0, .int .u64 0, .bool false, .int .u64 0, .int .u64 0, .bool false, .int .u64 0, .int .u64 0, .int .u64 0, .int .u64 0, .int .u64 0], 37), (b2, #[.int .u64 0, .int .u64 0, .int .u64 0, .int .u64 0, .int .u64 0, .int .u64 0, .int .u64 0, .int .u64 0, .int .u64 0, .int .u64 0, .int .u64 0, .int .u64 0, .int .u64 0, .int .u64 0, .slice none 0 0, .int .u64 0, .int .u64 0, .slice none 0 0, .int .u64 0, .int .u64 0, .bool false, .int .u64 0, .int .u64 0, .bool false, .int .u64 0, .int .u64 0, .bool false, .int .u64 0, .int .u64 0, .int .u64 0, .int .u64 0, .int .u64 0], 37), (m3.heap.size, #[.pointer (some ⟨b5, 8, none⟩), .pointer (some ⟨b5, 10, none⟩)], 75)]) := Lib.hid (HR.sub (G3.out.new #[.pointer (some ⟨b5, 8, none⟩), .pointer (some ⟨b5, 10, none⟩)] 75) (by simp))
  have LR1 := Lib.hid (Q3.out.next (bAlloc (Below.refl _ m3) (.cells #[.pointer (some ⟨b5, 8, none⟩), .pointer (some ⟨b5, 10, none⟩)] 75)))
  have hbp := (G3.out.row (b := b5) (cs := #[.int .u64 v0, .int .u64 v1, .int .u64 v2, .int .u64 v3, .int .u64 v4, .int .u64 v5, .int .u64 v6, .int .u64 v7, .int .u64 0, .int .u64 0, .int .u64 0, .int .u64 0, .int .u64 0, .int .u64 0, .slice none 0 0, .int .u64 0, .int .u64 0, .slice none 0 0, .int .u64 0, .int .u64 0, .bool false, .int .u64 0, .int .u64 0, .bool false, .int .u64 0, .int .u64 0, .bool false, .int .u64 0, .int .u64 0, .int .u64 0, .int .u64 0, .int .u64 0]) (t := 37) (by simp)).lt
  have hbpr : br < m3.heap.size := by have := hbs.out; omega
  clear G3 Q3
  generalize m3.alloc (.cells #[.pointer (some ⟨b5, 8, none⟩), .pointer (some ⟨b5, 10, none⟩)] 75) = x0 at L1 LR1 ⊢
  generalize m3.heap.size = bp at L1 hbp hbpr ⊢
  have hbq : Hid (b5 < bp ∧ br < bp) := Lib.hid ⟨hbp, hbpr⟩
  clear hbp hbpr
  obtain ⟨y7, hvy7⟩ : ∃ v : Int, ((Obol.rdN s6 : Nat) : Int) = v := ⟨_, rfl⟩
  obtain ⟨s7, hs7⟩ : ∃ s, Obol.tkS 8 s6 = s := ⟨_, rfl⟩
  have hlt7 := Obol.tkS_lt 8 hlt6.out
  rw [hs7] at hlt7
  replace hlt7 := Lib.hid hlt7
  replace hvy7 := Lib.hid hvy7
  replace hs7 := Lib.hid hs7
  obtain ⟨y8, hvy8⟩ : ∃ v : Int, ((Obol.rdN s7 : Nat) : Int) = v := ⟨_, rfl⟩
  obtain ⟨s8, hs8⟩ : ∃ s, Obol.tkS 8 s7 = s := ⟨_, rfl⟩
  have hlt8 := Obol.tkS_lt 8 hlt7.out
  rw [hs8] at hlt8
  replace hlt8 := Lib.hid hlt8
  replace hvy8 := Lib.hid hvy8
  replace hs8 := Lib.hid hs8
  obtain ⟨y9, hvy9⟩ : ∃ v : Int, ((Obol.rdN s8 : Nat) : Int) = v := ⟨_, rfl⟩
  obtain ⟨s9, hs9⟩ : ∃ s, Obol.tkS 8 s8 = s := ⟨_, rfl⟩
  have hlt9 := Obol.tkS_lt 8 hlt8.out
  rw [hs9] at hlt9
  replace hlt9 := Lib.hid hlt9
  replace hvy9 := Lib.hid hvy9
  replace hs9 := Lib.hid hs9
  obtain ⟨y10, hvy10⟩ : ∃ v : Int, ((Obol.rdN s9 : Nat) : Int) = v := ⟨_, rfl⟩
  obtain ⟨s10, hs10⟩ : ∃ s, Obol.tkS 8 s9 = s := ⟨_, rfl⟩
  have hlt10 := Obol.tkS_lt 8 hlt9.out
  rw [hs10] at hlt10
  replace hlt10 := Lib.hid hlt10
  replace hvy10 := Lib.hid hvy10
  replace hs10 := Lib.hid hs10
  go_loopw [35] (fun q wr => (q = .int .i64 0 ∧ Hid (HR w wr [(b5, #[.int .u64 v0, .int .u64 v1, .int .u64 v2, .int .u64 v3, .int .u64 v4, .int .u64 v5, .int .u64 v6, .int .u64 v7, .int .u64 0, .int .u64 0, .int .u64 0, .int .u64 0, .int .u64 0, .int .u64 0, .slice none 0 0, .int .u64 0, .int .u64 0, .slice none 0 0, .int .u64 0, .int .u64 0, .bool false, .int .u64 0, .int .u64 0, .bool false, .int .u64 0, .int .u64 0, .bool false, .int .u64 0, .int .u64 0, .int .u64 0, .int .u64 0, .int .u64 0], 37), (b2, #[.int .u64 0, .int .u64 0, .int .u64 0, .int .u64 0, .int .u64 0, .int .u64 0, .int .u64 0, .int .u64 0, .int .u64 0, .int .u64 0, .int .u64 0, .int .u64 0, .int .u64 0, .int .u64 0, .slice none 0 0, .int .u64 0, .int .u64 0, .slice none 0 0, .int .u64 0, .int .u64 0, .bool false, .int .u64 0, .int .u64 0, .bool false, .int .u64 0, .int .u64 0, .bool false, .int .u64 0, .int .u64 0, .int .u64 0, .int .u64 0, .int .u64 0], 37), (bp, #[.pointer (some ⟨b5, 8, none⟩), .pointer (some ⟨b5, 10, none⟩)], 75)]) ∧ Hid (RdAt w.heap.size br s6 wr)) ∨ (q = .int .i64 1 ∧ Hid (HR w wr [(b5, #[.int .u64 v0, .int .u64 v1, .int .u64 v2, .int .u64 v3, .int .u64 v4, .int .u64 v5, .int .u64 v6, .int .u64 v7, .int .u64 y7, .int .u64 y8, .int .u64 0, .int .u64 0, .int .u64 0, .int .u64 0, .slice none 0 0, .int .u64 0, .int .u64 0, .slice none 0 0, .int .u64 0, .int .u64 0, .bool false, .int .u64 0, .int .u64 0, .bool false, .int .u64 0, .int .u64 0, .bool false, .int .u64 0, .int .u64 0, .int .u64 0, .int .u64 0, .int .u64 0], 37), (b2, #[.int .u64 0, .int .u64 0, .int .u64 0, .int .u64 0, .int .u64 0, .int .u64 0, .int .u64 0, .int .u64 0, .int .u64 0, .int .u64 0, .int .u64 0, .int .u64 0, .int .u64 0, .int .u64 0, .slice none 0 0, .int .u64 0, .int .u64 0, .slice none 0 0, .int .u64 0, .int .u64 0, .bool false, .int .u64 0, .int .u64 0, .bool false, .int .u64 0, .int .u64 0, .bool false, .int .u64 0, .int .u64 0, .int .u64 0, .int .u64 0, .int .u64 0], 37), (bp, #[.pointer (some ⟨b5, 8, none⟩), .pointer (some ⟨b5, 10, none⟩)], 75)]) ∧ Hid (RdAt w.heap.size br s8 wr)) ∨ (q = .int .i64 2 ∧ Hid (HR w wr [(b5, #[.int .u64 v0, .int .u64 v1, .int .u64 v2, .int .u64 v3, .int .u64 v4, .int .u64 v5, .int .u64 v6, .int .u64 v7, .int .u64 y7, .int .u64 y8, .int .u64 y9, .int .u64 y10, .int .u64 0, .int .u64 0, .slice none 0 0, .int .u64 0, .int .u64 0, .slice none 0 0, .int .u64 0, .int .u64 0, .bool false, .int .u64 0, .int .u64 0, .bool false, .int .u64 0, .int .u64 0, .bool false, .int .u64 0, .int .u64 0, .int .u64 0, .int .u64 0, .int .u64 0], 37), (b2, #[.int .u64 0, .int .u64 0, .int .u64 0, .int .u64 0, .int .u64 0, .int .u64 0, .int .u64 0, .int .u64 0, .int .u64 0, .int .u64 0, .int .u64 0, .int .u64 0, .int .u64 0, .int .u64 0, .slice none 0 0, .int .u64 0, .int .u64 0, .slice none 0 0, .int .u64 0, .int .u64 0, .bool false, .int .u64 0, .int .u64 0, .bool false, .int .u64 0, .int .u64 0, .bool false, .int .u64 0, .int .u64 0, .int .u64 0, .int .u64 0, .int .u64 0], 37), (bp, #[.pointer (some ⟨b5, 8, none⟩), .pointer (some ⟨b5, 10, none⟩)], 75)]) ∧ Hid (RdAt w.heap.size br s10 wr))) (fun q _ => (2 - intOf q).toNat)
  case atStart => exact Or.inl ⟨rfl, L1, LR1⟩
  case round =>
    clear L1 LR1
    rcases hrel with ⟨rfl, HJ, RJ⟩ | ⟨rfl, HJ, RJ⟩ | ⟨rfl, HJ, RJ⟩
    · have kp := HJ.out.cell (b := bp) (cs := #[.pointer (some ⟨b5, 8, none⟩), .pointer (some ⟨b5, 10, none⟩)]) (t := 75) (by simp) 0 rfl
      go_upto_region 9 with fail
      clear kp
      have H9 : Hid (HR w wr [(b2, #[.int .u64 0, .int .u64 0, .int .u64 0, .int .u64 0, .int .u64 0, .int .u64 0, .int .u64 0, .int .u64 0, .int .u64 0, .int .u64 0, .int .u64 0, .int .u64 0, .int .u64 0, .int .u64 0, .slice none 0 0, .int .u64 0, .int .u64 0, .slice none 0 0, .int .u64 0, .int .u64 0, .bool false, .int .u64 0, .int .u64 0, .bool false, .int .u64 0, .int .u64 0, .bool false, .int .u64 0, .int .u64 0, .int .u64 0, .int .u64 0, .int .u64 0], 37), (bp, #[.pointer (some ⟨b5, 8, none⟩), .pointer (some ⟨b5, 10, none⟩)], 75)]) := Lib.hid (HR.sub HJ.out (by simp))
      have R5 := Lib.hid (HJ.out.row (b := b5) (cs := #[.int .u64 v0, .int .u64 v1, .int .u64 v2, .int .u64 v3, .int .u64 v4, .int .u64 v5, .int .u64 v6, .int .u64 v7, .int .u64 0, .int .u64 0, .int .u64 0, .int .u64 0, .int .u64 0, .int .u64 0, .slice none 0 0, .int .u64 0, .int .u64 0, .slice none 0 0, .int .u64 0, .int .u64 0, .bool false, .int .u64 0, .int .u64 0, .bool false, .int .u64 0, .int .u64 0, .bool false, .int .u64 0, .int .u64 0, .int .u64 0, .int .u64 0, .int .u64 0]) (t := 37) (by simp))
      refine wp_region_noPanic ?_
      refine wp_region_held_drew (S := fun wq => HR w wq [(b2, #[.int .u64 0, .int .u64 0, .int .u64 0, .int .u64 0, .int .u64 0, .int .u64 0, .int .u64 0, .int .u64 0, .int .u64 0, .int .u64 0, .int .u64 0, .int .u64 0, .int .u64 0, .int .u64 0, .slice none 0 0, .int .u64 0, .int .u64 0, .slice none 0 0, .int .u64 0, .int .u64 0, .bool false, .int .u64 0, .int .u64 0, .bool false, .int .u64 0, .int .u64 0, .bool false, .int .u64 0, .int .u64 0, .int .u64 0, .int .u64 0, .int .u64 0], 37), (bp, #[.pointer (some ⟨b5, 8, none⟩), .pointer (some ⟨b5, 10, none⟩)], 75)]) (by kernel_rfl) ?_ (fun hHeld => ?_)
      · exact HR.drew H9.out
      refine tk 0 hHeld ?_; refine tk 1 hHeld ?_; refine tk 2 hHeld ?_; refine tk 4 hHeld ?_; refine tk 6 hHeld ?_; refine tk 9 hHeld ?_
      refine stepH 3 (by kernel_rfl) rfl (by rfl) (fun K hK => ?_)
      go_simp
      refine (rNumber w.heap.size br s6 hlt6.out _ (show RdAt w.heap.size br s6 wr.drew from RdAt.next RJ.out (bDrew (Below.refl _ _)))).mono ?_
      rintro e wn1 ⟨rfl, hRd1, hT1⟩
      rw [hvy7.out]
      rw [hs7.out] at hRd1
      have hr1 := HR.tch hHeld hT1 (by have h1 := hbs.out; have h2 := hbq.out; simp; omega) (by have h1 := hbs.out; omega)
      have R51 : Row wn1 b5 #[.int .u64 v0, .int .u64 v1, .int .u64 v2, .int .u64 v3, .int .u64 v4, .int .u64 v5, .int .u64 v6, .int .u64 v7, .int .u64 0, .int .u64 0, .int .u64 0, .int .u64 0, .int .u64 0, .int .u64 0, .slice none 0 0, .int .u64 0, .int .u64 0, .slice none 0 0, .int .u64 0, .int .u64 0, .bool false, .int .u64 0, .int .u64 0, .bool false, .int .u64 0, .int .u64 0, .bool false, .int .u64 0, .int .u64 0, .int .u64 0, .int .u64 0, .int .u64 0] 37 := hT1.row (show Row wr.drew b5 #[.int .u64 v0, .int .u64 v1, .int .u64 v2, .int .u64 v3, .int .u64 v4, .int .u64 v5, .int .u64 v6, .int .u64 v7, .int .u64 0, .int .u64 0, .int .u64 0, .int .u64 0, .int .u64 0, .int .u64 0, .slice none 0 0, .int .u64 0, .int .u64 0, .slice none 0 0, .int .u64 0, .int .u64 0, .bool false, .int .u64 0, .int .u64 0, .bool false, .int .u64 0, .int .u64 0, .bool false, .int .u64 0, .int .u64 0, .int .u64 0, .int .u64 0, .int .u64 0] 37 from R5.out) (by have h1 := hbs.out; omega)
      refine hK.out _ _ ?_ (fun hHeld => ?_)
      · exact hr1
      clear hK K
      try simp only [Act.put, List.setIfInBounds_toArray, List.set_cons_zero, List.set_cons_succ]
      refine stepH 5 (by kernel_rfl) rfl (by rfl) (fun K hK => ?_)
      go_simp
      refine (rNumber w.heap.size br s7 hlt7.out _ (hRd1)).mono ?_
      rintro e wn2 ⟨rfl, hRd2, hT2⟩
      rw [hvy8.out]
      rw [hs8.out] at hRd2
      have hr2 := HR.tch hHeld hT2 (by have h1 := hbs.out; have h2 := hbq.out; simp; omega) (by have h1 := hbs.out; omega)
      have R52 : Row wn2 b5 #[.int .u64 v0, .int .u64 v1, .int .u64 v2, .int .u64 v3, .int .u64 v4, .int .u64 v5, .int .u64 v6, .int .u64 v7, .int .u64 0, .int .u64 0, .int .u64 0, .int .u64 0, .int .u64 0, .int .u64 0, .slice none 0 0, .int .u64 0, .int .u64 0, .slice none 0 0, .int .u64 0, .int .u64 0, .bool false, .int .u64 0, .int .u64 0, .bool false, .int .u64 0, .int .u64 0, .bool false, .int .u64 0, .int .u64 0, .int .u64 0, .int .u64 0, .int .u64 0] 37 := hT2.row (R51) (by have h1 := hbs.out; omega)
      refine hK.out _ _ ?_ (fun hHeld => ?_)
      · exact hr2
      clear hK K
      try simp only [Act.put, List.setIfInBounds_toArray, List.set_cons_zero, List.set_cons_succ]
      refine tk 7 hHeld ?_
      have k0 := R52.cell 8 rfl
      have k1 := R52.cell 9 rfl
      have f0 := R52.free 8
      have f1 := R52.free 9
      refine stepH 8 (by kernel_rfl) rfl (by rfl) (fun K hK => ?_)
      go_simp
      refine hK.out _ _ ?_ (fun hHeld => ?_)
      · exact HR.other hHeld (by have h1 := hbs.out; have h2 := hbq.out; simp; omega) (by have h1 := hbs.out; omega)
      clear hK K
      try simp only [Act.put, List.setIfInBounds_toArray, List.set_cons_zero, List.set_cons_succ]
      refine tk 10 hHeld ?_
      refine stepH 11 (by kernel_rfl) rfl (by rfl) (fun K hK => ?_)
      go_simp
      refine hK.out _ _ ?_ (fun hHeld => ?_)
      · exact HR.other hHeld (by have h1 := hbs.out; have h2 := hbq.out; simp; omega) (by have h1 := hbs.out; omega)
      clear hK K
      try simp only [Act.put, List.setIfInBounds_toArray, List.set_cons_zero, List.set_cons_succ]
      refine wpAnyH_done (by kernel_rfl) (NoPanic.normal ?_) _
      have HN : Hid (HR w ((wn2.setCell ⟨b5, 8, none⟩ (.int .u64 y7)).setCell ⟨b5, 9, none⟩ (.int .u64 y8)) [(b5, #[.int .u64 v0, .int .u64 v1, .int .u64 v2, .int .u64 v3, .int .u64 v4, .int .u64 v5, .int .u64 v6, .int .u64 v7, .int .u64 y7, .int .u64 y8, .int .u64 0, .int .u64 0, .int .u64 0, .int .u64 0, .slice none 0 0, .int .u64 0, .int .u64 0, .slice none 0 0, .int .u64 0, .int .u64 0, .bool false, .int .u64 0, .int .u64 0, .bool false, .int .u64 0, .int .u64 0, .bool false, .int .u64 0, .int .u64 0, .int .u64 0, .int .u64 0, .int .u64 0], 37), (b2, #[.int .u64 0, .int .u64 0, .int .u64 0, .int .u64 0, .int .u64 0, .int .u64 0, .int .u64 0, .int .u64 0, .int .u64 0, .int .u64 0, .int .u64 0, .int .u64 0, .int .u64 0, .int .u64 0, .slice none 0 0, .int .u64 0, .int .u64 0, .slice none 0 0, .int .u64 0, .int .u64 0, .bool false, .int .u64 0, .int .u64 0, .bool false, .int .u64 0, .int .u64 0, .bool false, .int .u64 0, .int .u64 0, .int .u64 0, .int .u64 0, .int .u64 0], 37), (bp, #[.pointer (some ⟨b5, 8, none⟩), .pointer (some ⟨b5, 10, none⟩)], 75)]) := Lib.hid (HR.add hHeld (show Row ((wn2.setCell ⟨b5, 8, none⟩ (.int .u64 y7)).setCell ⟨b5, 9, none⟩ (.int .u64 y8)) b5 #[.int .u64 v0, .int .u64 v1, .int .u64 v2, .int .u64 v3, .int .u64 v4, .int .u64 v5, .int .u64 v6, .int .u64 v7, .int .u64 y7, .int .u64 y8, .int .u64 0, .int .u64 0, .int .u64 0, .int .u64 0, .slice none 0 0, .int .u64 0, .int .u64 0, .slice none 0 0, .int .u64 0, .int .u64 0, .bool false, .int .u64 0, .int .u64 0, .bool false, .int .u64 0, .int .u64 0, .bool false, .int .u64 0, .int .u64 0, .int .u64 0, .int .u64 0, .int .u64 0] 37 from (R52.set 8 _).set 9 _))
      have RN : Hid (RdAt w.heap.size br s8 ((wn2.setCell ⟨b5, 8, none⟩ (.int .u64 y7)).setCell ⟨b5, 9, none⟩ (.int .u64 y8))) := Lib.hid (RdAt.other (RdAt.other hRd2 (by have := hbs.out; omega) (by have := hbs.out; omega)) (by have := hbs.out; omega) (by have := hbs.out; omega))
      clear hHeld H9 R5 HJ RJ hRd1 hT1 hr1 R51 hRd2 hT2 hr2 R52 k0 k1 f0 f1
      go_wp2_with fail
      go_roundw
      case rel => exact Or.inr (Or.inl ⟨rfl, HN, RN⟩)
      case measure => simp [intOf]
    · have kp := HJ.out.cell (b := bp) (cs := #[.pointer (some ⟨b5, 8, none⟩), .pointer (some ⟨b5, 10, none⟩)]) (t := 75) (by simp) 1 rfl
      go_upto_region 9 with fail
      clear kp
      have H9 : Hid (HR w wr [(b2, #[.int .u64 0, .int .u64 0, .int .u64 0, .int .u64 0, .int .u64 0, .int .u64 0, .int .u64 0, .int .u64 0, .int .u64 0, .int .u64 0, .int .u64 0, .int .u64 0, .int .u64 0, .int .u64 0, .slice none 0 0, .int .u64 0, .int .u64 0, .slice none 0 0, .int .u64 0, .int .u64 0, .bool false, .int .u64 0, .int .u64 0, .bool false, .int .u64 0, .int .u64 0, .bool false, .int .u64 0, .int .u64 0, .int .u64 0, .int .u64 0, .int .u64 0], 37), (bp, #[.pointer (some ⟨b5, 8, none⟩), .pointer (some ⟨b5, 10, none⟩)], 75)]) := Lib.hid (HR.sub HJ.out (by simp))
      have R5 := Lib.hid (HJ.out.row (b := b5) (cs := #[.int .u64 v0, .int .u64 v1, .int .u64 v2, .int .u64 v3, .int .u64 v4, .int .u64 v5, .int .u64 v6, .int .u64 v7, .int .u64 y7, .int .u64 y8, .int .u64 0, .int .u64 0, .int .u64 0, .int .u64 0, .slice none 0 0, .int .u64 0, .int .u64 0, .slice none 0 0, .int .u64 0, .int .u64 0, .bool false, .int .u64 0, .int .u64 0, .bool false, .int .u64 0, .int .u64 0, .bool false, .int .u64 0, .int .u64 0, .int .u64 0, .int .u64 0, .int .u64 0]) (t := 37) (by simp))
      refine wp_region_noPanic ?_
      refine wp_region_held_drew (S := fun wq => HR w wq [(b2, #[.int .u64 0, .int .u64 0, .int .u64 0, .int .u64 0, .int .u64 0, .int .u64 0, .int .u64 0, .int .u64 0, .int .u64 0, .int .u64 0, .int .u64 0, .int .u64 0, .int .u64 0, .int .u64 0, .slice none 0 0, .int .u64 0, .int .u64 0, .slice none 0 0, .int .u64 0, .int .u64 0, .bool false, .int .u64 0, .int .u64 0, .bool false, .int .u64 0, .int .u64 0, .bool false, .int .u64 0, .int .u64 0, .int .u64 0, .int .u64 0, .int .u64 0], 37), (bp, #[.pointer (some ⟨b5, 8, none⟩), .pointer (some ⟨b5, 10, none⟩)], 75)]) (by kernel_rfl) ?_ (fun hHeld => ?_)
      · exact HR.drew H9.out
      refine tk 0 hHeld ?_; refine tk 1 hHeld ?_; refine tk 2 hHeld ?_; refine tk 4 hHeld ?_; refine tk 6 hHeld ?_; refine tk 9 hHeld ?_
      refine stepH 3 (by kernel_rfl) rfl (by rfl) (fun K hK => ?_)
      go_simp
      refine (rNumber w.heap.size br s8 hlt8.out _ (show RdAt w.heap.size br s8 wr.drew from RdAt.next RJ.out (bDrew (Below.refl _ _)))).mono ?_
      rintro e wn1 ⟨rfl, hRd1, hT1⟩
      rw [hvy9.out]
      rw [hs9.out] at hRd1
      have hr1 := HR.tch hHeld hT1 (by have h1 := hbs.out; have h2 := hbq.out; simp; omega) (by have h1 := hbs.out; omega)
      have R51 : Row wn1 b5 #[.int .u64 v0, .int .u64 v1, .int .u64 v2, .int .u64 v3, .int .u64 v4, .int .u64 v5, .int .u64 v6, .int .u64 v7, .int .u64 y7, .int .u64 y8, .int .u64 0, .int .u64 0, .int .u64 0, .int .u64 0, .slice none 0 0, .int .u64 0, .int .u64 0, .slice none 0 0, .int .u64 0, .int .u64 0, .bool false, .int .u64 0, .int .u64 0, .bool false, .int .u64 0, .int .u64 0, .bool false, .int .u64 0, .int .u64 0, .int .u64 0, .int .u64 0, .int .u64 0] 37 := hT1.row (show Row wr.drew b5 #[.int .u64 v0, .int .u64 v1, .int .u64 v2, .int .u64 v3, .int .u64 v4, .int .u64 v5, .int .u64 v6, .int .u64 v7, .int .u64 y7, .int .u64 y8, .int .u64 0, .int .u64 0, .int .u64 0, .int .u64 0, .slice none 0 0, .int .u64 0, .int .u64 0, .slice none 0 0, .int .u64 0, .int .u64 0, .bool false, .int .u64 0, .int .u64 0, .bool false, .int .u64 0, .int .u64 0, .bool false, .int .u64 0, .int .u64 0, .int .u64 0, .int .u64 0, .int .u64 0] 37 from R5.out) (by have h1 := hbs.out; omega)
      refine hK.out _ _ ?_ (fun hHeld => ?_)
      · exact hr1
      clear hK K
      try simp only [Act.put, List.setIfInBounds_toArray, List.set_cons_zero, List.set_cons_succ]
      refine stepH 5 (by kernel_rfl) rfl (by rfl) (fun K hK => ?_)
      go_simp
      refine (rNumber w.heap.size br s9 hlt9.out _ (hRd1)).mono ?_
      rintro e wn2 ⟨rfl, hRd2, hT2⟩
      rw [hvy10.out]
      rw [hs10.out] at hRd2
      have hr2 := HR.tch hHeld hT2 (by have h1 := hbs.out; have h2 := hbq.out; simp; omega) (by have h1 := hbs.out; omega)
      have R52 : Row wn2 b5 #[.int .u64 v0, .int .u64 v1, .int .u64 v2, .int .u64 v3, .int .u64 v4, .int .u64 v5, .int .u64 v6, .int .u64 v7, .int .u64 y7, .int .u64 y8, .int .u64 0, .int .u64 0, .int .u64 0, .int .u64 0, .slice none 0 0, .int .u64 0, .int .u64 0, .slice none 0 0, .int .u64 0, .int .u64 0, .bool false, .int .u64 0, .int .u64 0, .bool false, .int .u64 0, .int .u64 0, .bool false, .int .u64 0, .int .u64 0, .int .u64 0, .int .u64 0, .int .u64 0] 37 := hT2.row (R51) (by have h1 := hbs.out; omega)
      refine hK.out _ _ ?_ (fun hHeld => ?_)
      · exact hr2
      clear hK K
      try simp only [Act.put, List.setIfInBounds_toArray, List.set_cons_zero, List.set_cons_succ]
      refine tk 7 hHeld ?_
      have k0 := R52.cell 10 rfl
      have k1 := R52.cell 11 rfl
      have f0 := R52.free 10
      have f1 := R52.free 11
      refine stepH 8 (by kernel_rfl) rfl (by rfl) (fun K hK => ?_)
      go_simp
      refine hK.out _ _ ?_ (fun hHeld => ?_)
      · exact HR.other hHeld (by have h1 := hbs.out; have h2 := hbq.out; simp; omega) (by have h1 := hbs.out; omega)
      clear hK K
      try simp only [Act.put, List.setIfInBounds_toArray, List.set_cons_zero, List.set_cons_succ]
      refine tk 10 hHeld ?_
      refine stepH 11 (by kernel_rfl) rfl (by rfl) (fun K hK => ?_)
      go_simp
      refine hK.out _ _ ?_ (fun hHeld => ?_)
      · exact HR.other hHeld (by have h1 := hbs.out; have h2 := hbq.out; simp; omega) (by have h1 := hbs.out; omega)
      clear hK K
      try simp only [Act.put, List.setIfInBounds_toArray, List.set_cons_zero, List.set_cons_succ]
      refine wpAnyH_done (by kernel_rfl) (NoPanic.normal ?_) _
      have HN : Hid (HR w ((wn2.setCell ⟨b5, 10, none⟩ (.int .u64 y9)).setCell ⟨b5, 11, none⟩ (.int .u64 y10)) [(b5, #[.int .u64 v0, .int .u64 v1, .int .u64 v2, .int .u64 v3, .int .u64 v4, .int .u64 v5, .int .u64 v6, .int .u64 v7, .int .u64 y7, .int .u64 y8, .int .u64 y9, .int .u64 y10, .int .u64 0, .int .u64 0, .slice none 0 0, .int .u64 0, .int .u64 0, .slice none 0 0, .int .u64 0, .int .u64 0, .bool false, .int .u64 0, .int .u64 0, .bool false, .int .u64 0, .int .u64 0, .bool false, .int .u64 0, .int .u64 0, .int .u64 0, .int .u64 0, .int .u64 0], 37), (b2, #[.int .u64 0, .int .u64 0, .int .u64 0, .int .u64 0, .int .u64 0, .int .u64 0, .int .u64 0, .int .u64 0, .int .u64 0, .int .u64 0, .int .u64 0, .int .u64 0, .int .u64 0, .int .u64 0, .slice none 0 0, .int .u64 0, .int .u64 0, .slice none 0 0, .int .u64 0, .int .u64 0, .bool false, .int .u64 0, .int .u64 0, .bool false, .int .u64 0, .int .u64 0, .bool false, .int .u64 0, .int .u64 0, .int .u64 0, .int .u64 0, .int .u64 0], 37), (bp, #[.pointer (some ⟨b5, 8, none⟩), .pointer (some ⟨b5, 10, none⟩)], 75)]) := Lib.hid (HR.add hHeld (show Row ((wn2.setCell ⟨b5, 10, none⟩ (.int .u64 y9)).setCell ⟨b5, 11, none⟩ (.int .u64 y10)) b5 #[.int .u64 v0, .int .u64 v1, .int .u64 v2, .int .u64 v3, .int .u64 v4, .int .u64 v5, .int .u64 v6, .int .u64 v7, .int .u64 y7, .int .u64 y8, .int .u64 y9, .int .u64 y10, .int .u64 0, .int .u64 0, .slice none 0 0, .int .u64 0, .int .u64 0, .slice none 0 0, .int .u64 0, .int .u64 0, .bool false, .int .u64 0, .int .u64 0, .bool false, .int .u64 0, .int .u64 0, .bool false, .int .u64 0, .int .u64 0, .int .u64 0, .int .u64 0, .int .u64 0] 37 from (R52.set 10 _).set 11 _))
      have RN : Hid (RdAt w.heap.size br s10 ((wn2.setCell ⟨b5, 10, none⟩ (.int .u64 y9)).setCell ⟨b5, 11, none⟩ (.int .u64 y10))) := Lib.hid (RdAt.other (RdAt.other hRd2 (by have := hbs.out; omega) (by have := hbs.out; omega)) (by have := hbs.out; omega) (by have := hbs.out; omega))
      clear hHeld H9 R5 HJ RJ hRd1 hT1 hr1 R51 hRd2 hT2 hr2 R52 k0 k1 f0 f1
      go_wp2_with fail
      go_roundw
      case rel => exact Or.inr (Or.inr ⟨rfl, HN, RN⟩)
      case measure => simp [intOf]
    · have I0 : Hid (HR w wr [(b5, #[.int .u64 v0, .int .u64 v1, .int .u64 v2, .int .u64 v3, .int .u64 v4, .int .u64 v5, .int .u64 v6, .int .u64 v7, .int .u64 y7, .int .u64 y8, .int .u64 y9, .int .u64 y10, .int .u64 0, .int .u64 0, .slice none 0 0, .int .u64 0, .int .u64 0, .slice none 0 0, .int .u64 0, .int .u64 0, .bool false, .int .u64 0, .int .u64 0, .bool false, .int .u64 0, .int .u64 0, .bool false, .int .u64 0, .int .u64 0, .int .u64 0, .int .u64 0, .int .u64 0], 37), (b2, #[.int .u64 0, .int .u64 0, .int .u64 0, .int .u64 0, .int .u64 0, .int .u64 0, .int .u64 0, .int .u64 0, .int .u64 0, .int .u64 0, .int .u64 0, .int .u64 0, .int .u64 0, .int .u64 0, .slice none 0 0, .int .u64 0, .int .u64 0, .slice none 0 0, .int .u64 0, .int .u64 0, .bool false, .int .u64 0, .int .u64 0, .bool false, .int .u64 0, .int .u64 0, .bool false, .int .u64 0, .int .u64 0, .int .u64 0, .int .u64 0, .int .u64 0], 37)]) := Lib.hid (HR.sub HJ.out (by simp))
      have IR0 := RJ
      clear HJ RJ
      obtain ⟨px0, hpx0⟩ : ∃ v : Int, (((Obol.ptP s10).1 : Nat) : Int) = v := ⟨_, rfl⟩
      obtain ⟨py0, hpy0⟩ : ∃ v : Int, (((Obol.ptP s10).2 : Nat) : Int) = v := ⟨_, rfl⟩
      obtain ⟨s11, hs11⟩ : ∃ s, Obol.ptS s10 = s := ⟨_, rfl⟩
      have hlt11 := Obol.ptS_lt hlt10.out
      rw [hs11] at hlt11
      replace hlt11 := Lib.hid hlt11
      obtain ⟨M0, hM0⟩ : ∃ l, Obol.tkM 32 s11 = l := ⟨_, rfl⟩
      obtain ⟨s12, hs12⟩ : ∃ s, Obol.tkS 32 s11 = s := ⟨_, rfl⟩
      have hlt12 := Obol.tkS_lt 32 hlt11.out
      rw [hs12] at hlt12
      replace hlt12 := Lib.hid hlt12
      replace hpx0 := Lib.hid hpx0
      replace hpy0 := Lib.hid hpy0
      replace hM0 := Lib.hid hM0
      replace hs11 := Lib.hid hs11
      replace hs12 := Lib.hid hs12
      obtain ⟨px1, hpx1⟩ : ∃ v : Int, (((Obol.ptP s12).1 : Nat) : Int) = v := ⟨_, rfl⟩
      obtain ⟨py1, hpy1⟩ : ∃ v : Int, (((Obol.ptP s12).2 : Nat) : Int) = v := ⟨_, rfl⟩
      obtain ⟨s13, hs13⟩ : ∃ s, Obol.ptS s12 = s := ⟨_, rfl⟩
      have hlt13 := Obol.ptS_lt hlt12.out
      rw [hs13] at hlt13
      replace hlt13 := Lib.hid hlt13
      obtain ⟨M1, hM1⟩ : ∃ l, Obol.tkM 32 s13 = l := ⟨_, rfl⟩
      obtain ⟨s14, hs14⟩ : ∃ s, Obol.tkS 32 s13 = s := ⟨_, rfl⟩
      have hlt14 := Obol.tkS_lt 32 hlt13.out
      rw [hs14] at hlt14
      replace hlt14 := Lib.hid hlt14
      replace hpx1 := Lib.hid hpx1
      replace hpy1 := Lib.hid hpy1
      replace hM1 := Lib.hid hM1
      replace hs13 := Lib.hid hs13
      replace hs14 := Lib.hid hs14
      have hMl0 : Hid (M0.length = 32) := Lib.hid (by rw [← hM0.out]; exact Obol.tkM_len _ _)
      have hMl1 : Hid (M1.length = 32) := Lib.hid (by rw [← hM1.out]; exact Obol.tkM_len _ _)
      go_wp2_with fail
      go_loopw [50] (fun q wr => (q = .int .i64 0 ∧ Hid (HR w wr [(b5, #[.int .u64 v0, .int .u64 v1, .int .u64 v2, .int .u64 v3, .int .u64 v4, .int .u64 v5, .int .u64 v6, .int .u64 v7, .int .u64 y7, .int .u64 y8, .int .u64 y9, .int .u64 y10, .int .u64 0, .int .u64 0, .slice none 0 0, .int .u64 0, .int .u64 0, .slice none 0 0, .int .u64 0, .int .u64 0, .bool false, .int .u64 0, .int .u64 0, .bool false, .int .u64 0, .int .u64 0, .bool false, .int .u64 0, .int .u64 0, .int .u64 0, .int .u64 0, .int .u64 0], 37), (b2, #[.int .u64 0, .int .u64 0, .int .u64 0, .int .u64 0, .int .u64 0, .int .u64 0, .int .u64 0, .int .u64 0, .int .u64 0, .int .u64 0, .int .u64 0, .int .u64 0, .int .u64 0, .int .u64 0, .slice none 0 0, .int .u64 0, .int .u64 0, .slice none 0 0, .int .u64 0, .int .u64 0, .bool false, .int .u64 0, .int .u64 0, .bool false, .int .u64 0, .int .u64 0, .bool false, .int .u64 0, .int .u64 0, .int .u64 0, .int .u64 0, .int .u64 0], 37)]) ∧ Hid (RdAt w.heap.size br s10 wr)) ∨ (∃ (g0 e0 : Nat) (z0 : Array Value), q = .int .i64 1 ∧ Hid (OwF g0 e0 z0 M0 b5 br) ∧ Hid (HR w wr [(b5, #[.int .u64 v0, .int .u64 v1, .int .u64 v2, .int .u64 v3, .int .u64 v4, .int .u64 v5, .int .u64 v6, .int .u64 v7, .int .u64 y7, .int .u64 y8, .int .u64 y9, .int .u64 y10, .int .u64 px0, .int .u64 py0, .slice (some ⟨g0, 0, none⟩) 32 e0, .int .u64 0, .int .u64 0, .slice none 0 0, .int .u64 0, .int .u64 0, .bool false, .int .u64 0, .int .u64 0, .bool false, .int .u64 0, .int .u64 0, .bool false, .int .u64 0, .int .u64 0, .int .u64 0, .int .u64 0, .int .u64 0], 37), (b2, #[.int .u64 0, .int .u64 0, .int .u64 0, .int .u64 0, .int .u64 0, .int .u64 0, .int .u64 0, .int .u64 0, .int .u64 0, .int .u64 0, .int .u64 0, .int .u64 0, .int .u64 0, .int .u64 0, .slice none 0 0, .int .u64 0, .int .u64 0, .slice none 0 0, .int .u64 0, .int .u64 0, .bool false, .int .u64 0, .int .u64 0, .bool false, .int .u64 0, .int .u64 0, .bool false, .int .u64 0, .int .u64 0, .int .u64 0, .int .u64 0, .int .u64 0], 37), (g0, z0, 5)]) ∧ Hid (RdAt w.heap.size br s12 wr)) ∨ (∃ (g0 e0 : Nat) (z0 : Array Value) (g1 e1 : Nat) (z1 : Array Value), q = .int .i64 2 ∧ Hid (OwF g0 e0 z0 M0 b5 br) ∧ Hid (OwF g1 e1 z1 M1 b5 br) ∧ Hid (HR w wr [(b5, #[.int .u64 v0, .int .u64 v1, .int .u64 v2, .int .u64 v3, .int .u64 v4, .int .u64 v5, .int .u64 v6, .int .u64 v7, .int .u64 y7, .int .u64 y8, .int .u64 y9, .int .u64 y10, .int .u64 px0, .int .u64 py0, .slice (some ⟨g0, 0, none⟩) 32 e0, .int .u64 px1, .int .u64 py1, .slice (some ⟨g1, 0, none⟩) 32 e1, .int .u64 0, .int .u64 0, .bool false, .int .u64 0, .int .u64 0, .bool false, .int .u64 0, .int .u64 0, .bool false, .int .u64 0, .int .u64 0, .int .u64 0, .int .u64 0, .int .u64 0], 37), (b2, #[.int .u64 0, .int .u64 0, .int .u64 0, .int .u64 0, .int .u64 0, .int .u64 0, .int .u64 0, .int .u64 0, .int .u64 0, .int .u64 0, .int .u64 0, .int .u64 0, .int .u64 0, .int .u64 0, .slice none 0 0, .int .u64 0, .int .u64 0, .slice none 0 0, .int .u64 0, .int .u64 0, .bool false, .int .u64 0, .int .u64 0, .bool false, .int .u64 0, .int .u64 0, .bool false, .int .u64 0, .int .u64 0, .int .u64 0, .int .u64 0, .int .u64 0], 37), (g0, z0, 5), (g1, z1, 5)]) ∧ Hid (RdAt w.heap.size br s14 wr))) (fun q _ => (2 - intOf q).toNat)
      case atStart => exact Or.inl ⟨rfl, I0, IR0⟩
      case round =>
        clear I0 IR0
        rcases hrel with ⟨rfl, HJ, RJ⟩ | ⟨g0, e0, z0, rfl, OF0, HJ, RJ⟩ | ⟨g0, e0, z0, g1, e1, z1, rfl, OF0, OF1, HJ, RJ⟩
        · go_wp2_with fail
          refine (rPoint w.heap.size br s10 hlt10.out _ RJ.out).mono ?_
          rintro e qa ⟨rfl, hRd, hT⟩
          have HA := HR.tch HJ.out hT (by have h1 := hbs.out; simp; omega) (by have h1 := hbs.out; omega)
          rw [hpx0.out, hpy0.out]
          rw [hs11.out] at hRd
          go_upto_region 15 with fail
          have HB : Hid (HR w (qa.alloc (.cells #[.int .u64 px0, .int .u64 py0] 24)) ((qa.heap.size, #[.int .u64 px0, .int .u64 py0], 24) :: [(b5, #[.int .u64 v0, .int .u64 v1, .int .u64 v2, .int .u64 v3, .int .u64 v4, .int .u64 v5, .int .u64 v6, .int .u64 v7, .int .u64 y7, .int .u64 y8, .int .u64 y9, .int .u64 y10, .int .u64 0, .int .u64 0, .slice none 0 0, .int .u64 0, .int .u64 0, .slice none 0 0, .int .u64 0, .int .u64 0, .bool false, .int .u64 0, .int .u64 0, .bool false, .int .u64 0, .int .u64 0, .bool false, .int .u64 0, .int .u64 0, .int .u64 0, .int .u64 0, .int .u64 0], 37), (b2, #[.int .u64 0, .int .u64 0, .int .u64 0, .int .u64 0, .int .u64 0, .int .u64 0, .int .u64 0, .int .u64 0, .int .u64 0, .int .u64 0, .int .u64 0, .int .u64 0, .int .u64 0, .int .u64 0, .slice none 0 0, .int .u64 0, .int .u64 0, .slice none 0 0, .int .u64 0, .int .u64 0, .bool false, .int .u64 0, .int .u64 0, .bool false, .int .u64 0, .int .u64 0, .bool false, .int .u64 0, .int .u64 0, .int .u64 0, .int .u64 0, .int .u64 0], 37)])) := Lib.hid (HA.new #[.int .u64 px0, .int .u64 py0] 24)
          have RB := Lib.hid (RdAt.next hRd (bAlloc (Below.refl _ qa) (.cells #[.int .u64 px0, .int .u64 py0] 24)))
          have hl9 : Hid (b5 < qa.heap.size ∧ br < qa.heap.size) := Lib.hid ⟨(HA.row (b := b5) (cs := #[.int .u64 v0, .int .u64 v1, .int .u64 v2, .int .u64 v3, .int .u64 v4, .int .u64 v5, .int .u64 v6, .int .u64 v7, .int .u64 y7, .int .u64 y8, .int .u64 y9, .int .u64 y10, .int .u64 0, .int .u64 0, .slice none 0 0, .int .u64 0, .int .u64 0, .slice none 0 0, .int .u64 0, .int .u64 0, .bool false, .int .u64 0, .int .u64 0, .bool false, .int .u64 0, .int .u64 0, .bool false, .int .u64 0, .int .u64 0, .int .u64 0, .int .u64 0, .int .u64 0]) (t := 37) (by simp)).lt, by obtain ⟨_, _, h, _, _⟩ := hRd; exact h.lt⟩
          clear HA hRd hT HJ RJ
          generalize qa.alloc (.cells #[.int .u64 px0, .int .u64 py0] 24) = qb at HB RB ⊢
          generalize qa.heap.size = b9 at HB hl9 ⊢
          have H9 : Hid (HR w qb [(b9, #[.int .u64 px0, .int .u64 py0], 24), (b2, #[.int .u64 0, .int .u64 0, .int .u64 0, .int .u64 0, .int .u64 0, .int .u64 0, .int .u64 0, .int .u64 0, .int .u64 0, .int .u64 0, .int .u64 0, .int .u64 0, .int .u64 0, .int .u64 0, .slice none 0 0, .int .u64 0, .int .u64 0, .slice none 0 0, .int .u64 0, .int .u64 0, .bool false, .int .u64 0, .int .u64 0, .bool false, .int .u64 0, .int .u64 0, .bool false, .int .u64 0, .int .u64 0, .int .u64 0, .int .u64 0, .int .u64 0], 37)]) := Lib.hid (HR.sub HB.out (by simp))
          have R5 := Lib.hid (HB.out.row (b := b5) (cs := #[.int .u64 v0, .int .u64 v1, .int .u64 v2, .int .u64 v3, .int .u64 v4, .int .u64 v5, .int .u64 v6, .int .u64 v7, .int .u64 y7, .int .u64 y8, .int .u64 y9, .int .u64 y10, .int .u64 0, .int .u64 0, .slice none 0 0, .int .u64 0, .int .u64 0, .slice none 0 0, .int .u64 0, .int .u64 0, .bool false, .int .u64 0, .int .u64 0, .bool false, .int .u64 0, .int .u64 0, .bool false, .int .u64 0, .int .u64 0, .int .u64 0, .int .u64 0, .int .u64 0]) (t := 37) (by simp))
          refine wp_region_noPanic ?_
          refine wp_region_held_drew (S := fun wq => wq.cell? ⟨b9, 0, none⟩ = some (.int .u64 px0) ∧ wq.cell? ⟨b9, 1, none⟩ = some (.int .u64 py0) ∧ HR w wq [(b9, #[.int .u64 px0, .int .u64 py0], 24), (b2, #[.int .u64 0, .int .u64 0, .int .u64 0, .int .u64 0, .int .u64 0, .int .u64 0, .int .u64 0, .int .u64 0, .int .u64 0, .int .u64 0, .int .u64 0, .int .u64 0, .int .u64 0, .int .u64 0, .slice none 0 0, .int .u64 0, .int .u64 0, .slice none 0 0, .int .u64 0, .int .u64 0, .bool false, .int .u64 0, .int .u64 0, .bool false, .int .u64 0, .int .u64 0, .bool false, .int .u64 0, .int .u64 0, .int .u64 0, .int .u64 0, .int .u64 0], 37)]) (by kernel_rfl) ?_ (fun hHeld => ?_)
          · have hq0 := HR.drew H9.out
            exact ⟨HR.cell hq0 (b := b9) (cs := #[.int .u64 px0, .int .u64 py0]) (t := 24) (by simp) 0 rfl, HR.cell hq0 (b := b9) (cs := #[.int .u64 px0, .int .u64 py0]) (t := 24) (by simp) 1 rfl, hq0⟩
          refine tk 0 hHeld ?_; refine tk 1 hHeld ?_; refine tk 2 hHeld ?_; refine tk 6 hHeld ?_
          refine stepH 3 (by kernel_rfl) rfl (by rfl) (fun K hK => ?_)
          go_simp
          refine (rTake w.heap.size br 32 s11 (by decide) (by decide) _ (RdAt.next RB.out (bDrew (Below.refl _ _)))).mono ?_
          rintro e wn1 ⟨⟨v, rfl, tb, tq, tc, rfl, hBL, hbl, hkc, hcm, hne⟩, hRd1, hT1⟩
          rw [hs12.out] at hRd1
          rw [hM0.out] at hBL
          have hr1 := HR.tch hHeld.2.2 hT1 (by have h1 := hbs.out; have h9 := hl9.out; simp; omega) (by have h1 := hbs.out; omega)
          have R51 : Row wn1 b5 #[.int .u64 v0, .int .u64 v1, .int .u64 v2, .int .u64 v3, .int .u64 v4, .int .u64 v5, .int .u64 v6, .int .u64 v7, .int .u64 y7, .int .u64 y8, .int .u64 y9, .int .u64 y10, .int .u64 0, .int .u64 0, .slice none 0 0, .int .u64 0, .int .u64 0, .slice none 0 0, .int .u64 0, .int .u64 0, .bool false, .int .u64 0, .int .u64 0, .bool false, .int .u64 0, .int .u64 0, .bool false, .int .u64 0, .int .u64 0, .int .u64 0, .int .u64 0, .int .u64 0] 37 := hT1.row (show Row qb.drew b5 #[.int .u64 v0, .int .u64 v1, .int .u64 v2, .int .u64 v3, .int .u64 v4, .int .u64 v5, .int .u64 v6, .int .u64 v7, .int .u64 y7, .int .u64 y8, .int .u64 y9, .int .u64 y10, .int .u64 0, .int .u64 0, .slice none 0 0, .int .u64 0, .int .u64 0, .slice none 0 0, .int .u64 0, .int .u64 0, .bool false, .int .u64 0, .int .u64 0, .bool false, .int .u64 0, .int .u64 0, .bool false, .int .u64 0, .int .u64 0, .int .u64 0, .int .u64 0, .int .u64 0] 37 from R5.out) (by have h1 := hbs.out; omega)
          refine hK.out _ _ ?_ (fun hHeld => ?_)
          · exact ⟨HR.cell hr1 (b := b9) (cs := #[.int .u64 px0, .int .u64 py0]) (t := 24) (by simp) 0 rfl, HR.cell hr1 (b := b9) (cs := #[.int .u64 px0, .int .u64 py0]) (t := 24) (by simp) 1 rfl, hr1⟩
          clear hK K
          try simp only [Act.put, List.setIfInBounds_toArray, List.set_cons_zero, List.set_cons_succ]
          refine stepH 4 (by kernel_rfl) rfl (by rfl) (fun K hK => ?_)
          go_simp
          refine (bClone tb tq 32 tc M0 hMl0.out (by decide) wn1 hBL (by decide)).mono ?_
          rintro e wn2 ⟨g0, e0, rfl, hO, hb2⟩
          have hr2 := HR.next hHeld.2.2 hb2
          have R52 := R51.below hb2 R51.lt
          have hRd2 := RdAt.next hRd1 hb2
          have hl52 := R51.lt
          have hlr2 : br < wn1.heap.size := by obtain ⟨_, _, h, _, _⟩ := hRd1; exact h.lt
          refine hK.out _ _ ?_ (fun hHeld => ?_)
          · exact ⟨HR.cell hr2 (b := b9) (cs := #[.int .u64 px0, .int .u64 py0]) (t := 24) (by simp) 0 rfl, HR.cell hr2 (b := b9) (cs := #[.int .u64 px0, .int .u64 py0]) (t := 24) (by simp) 1 rfl, hr2⟩
          clear hK K
          try simp only [Act.put, List.setIfInBounds_toArray, List.set_cons_zero, List.set_cons_succ]
          refine tk 5 hHeld ?_; refine tk 7 hHeld ?_
          have k0 := R52.cell 12 rfl
          have f0 := R52.free 12
          have k1 := R52.cell 13 rfl
          have f1 := R52.free 13
          have k2 := R52.cell 14 rfl
          have f2 := R52.free 14
          have hoth := HR.other (HR.other (HR.other (hHeld.2.2) (D := b5) (o := 12) (v := .int .u64 px0) (by have h1 := hbs.out; have h9 := hl9.out; simp; omega) (by have h1 := hbs.out; omega)) (D := b5) (o := 13) (v := .int .u64 py0) (by have h1 := hbs.out; have h9 := hl9.out; simp; omega) (by have h1 := hbs.out; omega)) (D := b5) (o := 14) (v := .slice (some ⟨g0, 0, none⟩) 32 e0) (by have h1 := hbs.out; have h9 := hl9.out; simp; omega) (by have h1 := hbs.out; omega)
          refine stepH 8 (by kernel_rfl) rfl (by rfl) (fun K hK => ?_)
          go_simp
          refine hK.out _ _ ?_ (fun hHeld => ?_)
          · exact ⟨HR.cell hoth (b := b9) (cs := #[.int .u64 px0, .int .u64 py0]) (t := 24) (by simp) 0 rfl, HR.cell hoth (b := b9) (cs := #[.int .u64 px0, .int .u64 py0]) (t := 24) (by simp) 1 rfl, hoth⟩
          clear hK K
          try simp only [Act.put, List.setIfInBounds_toArray, List.set_cons_zero, List.set_cons_succ]
          refine wpAnyH_done (by kernel_rfl) (NoPanic.normal ?_) _
          obtain ⟨gg, cap, z0, hv0, hge, hrow, hle, hcm2, hsz, htk⟩ := hO.size (by rw [hMl0.out]; decide)
          simp only [Value.slice.injEq, Option.some.injEq, Addr.mk.injEq, and_true] at hv0
          obtain ⟨rfl, hv1, rfl⟩ := hv0
          have OF0 : Hid (OwF g0 e0 z0 M0 b5 br) := Lib.hid ⟨hMl0.out, by rw [hMl0.out] at hle; exact hle, hcm2, hsz, by rw [hMl0.out] at htk; exact htk, by omega, by omega⟩
          have HN : Hid (HR w (((wn2.setCell ⟨b5, 12, none⟩ (.int .u64 px0)).setCell ⟨b5, 13, none⟩ (.int .u64 py0)).setCell ⟨b5, 14, none⟩ (.slice (some ⟨g0, 0, none⟩) 32 e0)) [(b5, #[.int .u64 v0, .int .u64 v1, .int .u64 v2, .int .u64 v3, .int .u64 v4, .int .u64 v5, .int .u64 v6, .int .u64 v7, .int .u64 y7, .int .u64 y8, .int .u64 y9, .int .u64 y10, .int .u64 px0, .int .u64 py0, .slice (some ⟨g0, 0, none⟩) 32 e0, .int .u64 0, .int .u64 0, .slice none 0 0, .int .u64 0, .int .u64 0, .bool false, .int .u64 0, .int .u64 0, .bool false, .int .u64 0, .int .u64 0, .bool false, .int .u64 0, .int .u64 0, .int .u64 0, .int .u64 0, .int .u64 0], 37), (b2, #[.int .u64 0, .int .u64 0, .int .u64 0, .int .u64 0, .int .u64 0, .int .u64 0, .int .u64 0, .int .u64 0, .int .u64 0, .int .u64 0, .int .u64 0, .int .u64 0, .int .u64 0, .int .u64 0, .slice none 0 0, .int .u64 0, .int .u64 0, .slice none 0 0, .int .u64 0, .int .u64 0, .bool false, .int .u64 0, .int .u64 0, .bool false, .int .u64 0, .int .u64 0, .bool false, .int .u64 0, .int .u64 0, .int .u64 0, .int .u64 0, .int .u64 0], 37), (g0, z0, 5)]) := Lib.hid (HR.sub (HR.add (HR.add hoth (show Row (((wn2.setCell ⟨b5, 12, none⟩ (.int .u64 px0)).setCell ⟨b5, 13, none⟩ (.int .u64 py0)).setCell ⟨b5, 14, none⟩ (.slice (some ⟨g0, 0, none⟩) 32 e0)) b5 #[.int .u64 v0, .int .u64 v1, .int .u64 v2, .int .u64 v3, .int .u64 v4, .int .u64 v5, .int .u64 v6, .int .u64 v7, .int .u64 y7, .int .u64 y8, .int .u64 y9, .int .u64 y10, .int .u64 px0, .int .u64 py0, .slice (some ⟨g0, 0, none⟩) 32 e0, .int .u64 0, .int .u64 0, .slice none 0 0, .int .u64 0, .int .u64 0, .bool false, .int .u64 0, .int .u64 0, .bool false, .int .u64 0, .int .u64 0, .bool false, .int .u64 0, .int .u64 0, .int .u64 0, .int .u64 0, .int .u64 0] 37 from (((R52.set 12 _).set 13 _).set 14 _))) (show Row (((wn2.setCell ⟨b5, 12, none⟩ (.int .u64 px0)).setCell ⟨b5, 13, none⟩ (.int .u64 py0)).setCell ⟨b5, 14, none⟩ (.slice (some ⟨g0, 0, none⟩) 32 e0)) g0 z0 5 from (((hrow.other (v := .int .u64 px0) (c := b5) (o := 12) (by have := OF0.out.n5; omega)).other (v := .int .u64 py0) (c := b5) (o := 13) (by have := OF0.out.n5; omega)).other (v := .slice (some ⟨g0, 0, none⟩) 32 e0) (c := b5) (o := 14) (by have := OF0.out.n5; omega)))) (by simp))
          have RN : Hid (RdAt w.heap.size br s12 (((wn2.setCell ⟨b5, 12, none⟩ (.int .u64 px0)).setCell ⟨b5, 13, none⟩ (.int .u64 py0)).setCell ⟨b5, 14, none⟩ (.slice (some ⟨g0, 0, none⟩) 32 e0))) := Lib.hid (RdAt.other (RdAt.other (RdAt.other (hRd2) (by have := hbs.out; omega) (by have := hbs.out; omega)) (by have := hbs.out; omega) (by have := hbs.out; omega)) (by have := hbs.out; omega) (by have := hbs.out; omega))
          clear hHeld H9 R5 HB RB hl9 hBL hbl hkc hcm hne hRd1 hT1 hr1 R51 hr2 R52 hRd2 hl52 hlr2 k0 k1 k2 f0 f1 f2 hoth hO hb2 hge hrow hle hcm2 hsz htk hv1
          go_wp2_with fail
          go_roundw
          case rel => exact Or.inr (Or.inl ⟨g0, e0, z0, rfl, OF0, HN, RN⟩)
          case measure => simp [intOf]
        · go_wp2_with fail
          refine (rPoint w.heap.size br s12 hlt12.out _ RJ.out).mono ?_
          rintro e qa ⟨rfl, hRd, hT⟩
          have HA := HR.tch HJ.out hT (by have h1 := hbs.out; have h20 := OF0.out.nr; have h30 := OF0.out.n5; simp; omega) (by have h1 := hbs.out; omega)
          rw [hpx1.out, hpy1.out]
          rw [hs13.out] at hRd
          go_upto_region 15 with fail
          have HB : Hid (HR w (qa.alloc (.cells #[.int .u64 px1, .int .u64 py1] 24)) ((qa.heap.size, #[.int .u64 px1, .int .u64 py1], 24) :: [(b5, #[.int .u64 v0, .int .u64 v1, .int .u64 v2, .int .u64 v3, .int .u64 v4, .int .u64 v5, .int .u64 v6, .int .u64 v7, .int .u64 y7, .int .u64 y8, .int .u64 y9, .int .u64 y10, .int .u64 px0, .int .u64 py0, .slice (some ⟨g0, 0, none⟩) 32 e0, .int .u64 0, .int .u64 0, .slice none 0 0, .int .u64 0, .int .u64 0, .bool false, .int .u64 0, .int .u64 0, .bool false, .int .u64 0, .int .u64 0, .bool false, .int .u64 0, .int .u64 0, .int .u64 0, .int .u64 0, .int .u64 0], 37), (b2, #[.int .u64 0, .int .u64 0, .int .u64 0, .int .u64 0, .int .u64 0, .int .u64 0, .int .u64 0, .int .u64 0, .int .u64 0, .int .u64 0, .int .u64 0, .int .u64 0, .int .u64 0, .int .u64 0, .slice none 0 0, .int .u64 0, .int .u64 0, .slice none 0 0, .int .u64 0, .int .u64 0, .bool false, .int .u64 0, .int .u64 0, .bool false, .int .u64 0, .int .u64 0, .bool false, .int .u64 0, .int .u64 0, .int .u64 0, .int .u64 0, .int .u64 0], 37), (g0, z0, 5)])) := Lib.hid (HA.new #[.int .u64 px1, .int .u64 py1] 24)
          have RB := Lib.hid (RdAt.next hRd (bAlloc (Below.refl _ qa) (.cells #[.int .u64 px1, .int .u64 py1] 24)))
          have hl9 : Hid (b5 < qa.heap.size ∧ br < qa.heap.size) := Lib.hid ⟨(HA.row (b := b5) (cs := #[.int .u64 v0, .int .u64 v1, .int .u64 v2, .int .u64 v3, .int .u64 v4, .int .u64 v5, .int .u64 v6, .int .u64 v7, .int .u64 y7, .int .u64 y8, .int .u64 y9, .int .u64 y10, .int .u64 px0, .int .u64 py0, .slice (some ⟨g0, 0, none⟩) 32 e0, .int .u64 0, .int .u64 0, .slice none 0 0, .int .u64 0, .int .u64 0, .bool false, .int .u64 0, .int .u64 0, .bool false, .int .u64 0, .int .u64 0, .bool false, .int .u64 0, .int .u64 0, .int .u64 0, .int .u64 0, .int .u64 0]) (t := 37) (by simp)).lt, by obtain ⟨_, _, h, _, _⟩ := hRd; exact h.lt⟩
          clear HA hRd hT HJ RJ
          generalize qa.alloc (.cells #[.int .u64 px1, .int .u64 py1] 24) = qb at HB RB ⊢
          generalize qa.heap.size = b9 at HB hl9 ⊢
          have H9 : Hid (HR w qb [(b9, #[.int .u64 px1, .int .u64 py1], 24), (b2, #[.int .u64 0, .int .u64 0, .int .u64 0, .int .u64 0, .int .u64 0, .int .u64 0, .int .u64 0, .int .u64 0, .int .u64 0, .int .u64 0, .int .u64 0, .int .u64 0, .int .u64 0, .int .u64 0, .slice none 0 0, .int .u64 0, .int .u64 0, .slice none 0 0, .int .u64 0, .int .u64 0, .bool false, .int .u64 0, .int .u64 0, .bool false, .int .u64 0, .int .u64 0, .bool false, .int .u64 0, .int .u64 0, .int .u64 0, .int .u64 0, .int .u64 0], 37), (g0, z0, 5)]) := Lib.hid (HR.sub HB.out (by simp))
          have R5 := Lib.hid (HB.out.row (b := b5) (cs := #[.int .u64 v0, .int .u64 v1, .int .u64 v2, .int .u64 v3, .int .u64 v4, .int .u64 v5, .int .u64 v6, .int .u64 v7, .int .u64 y7, .int .u64 y8, .int .u64 y9, .int .u64 y10, .int .u64 px0, .int .u64 py0, .slice (some ⟨g0, 0, none⟩) 32 e0, .int .u64 0, .int .u64 0, .slice none 0 0, .int .u64 0, .int .u64 0, .bool false, .int .u64 0, .int .u64 0, .bool false, .int .u64 0, .int .u64 0, .bool false, .int .u64 0, .int .u64 0, .int .u64 0, .int .u64 0, .int .u64 0]) (t := 37) (by simp))
          refine wp_region_noPanic ?_
          refine wp_region_held_drew (S := fun wq => wq.cell? ⟨b9, 0, none⟩ = some (.int .u64 px1) ∧ wq.cell? ⟨b9, 1, none⟩ = some (.int .u64 py1) ∧ HR w wq [(b9, #[.int .u64 px1, .int .u64 py1], 24), (b2, #[.int .u64 0, .int .u64 0, .int .u64 0, .int .u64 0, .int .u64 0, .int .u64 0, .int .u64 0, .int .u64 0, .int .u64 0, .int .u64 0, .int .u64 0, .int .u64 0, .int .u64 0, .int .u64 0, .slice none 0 0, .int .u64 0, .int .u64 0, .slice none 0 0, .int .u64 0, .int .u64 0, .bool false, .int .u64 0, .int .u64 0, .bool false, .int .u64 0, .int .u64 0, .bool false, .int .u64 0, .int .u64 0, .int .u64 0, .int .u64 0, .int .u64 0], 37), (g0, z0, 5)]) (by kernel_rfl) ?_ (fun hHeld => ?_)
          · have hq0 := HR.drew H9.out
            exact ⟨HR.cell hq0 (b := b9) (cs := #[.int .u64 px1, .int .u64 py1]) (t := 24) (by simp) 0 rfl, HR.cell hq0 (b := b9) (cs := #[.int .u64 px1, .int .u64 py1]) (t := 24) (by simp) 1 rfl, hq0⟩
          refine tk 0 hHeld ?_; refine tk 1 hHeld ?_; refine tk 2 hHeld ?_; refine tk 6 hHeld ?_
          refine stepH 3 (by kernel_rfl) rfl (by rfl) (fun K hK => ?_)
          go_simp
          refine (rTake w.heap.size br 32 s13 (by decide) (by decide) _ (RdAt.next RB.out (bDrew (Below.refl _ _)))).mono ?_
          rintro e wn1 ⟨⟨v, rfl, tb, tq, tc, rfl, hBL, hbl, hkc, hcm, hne⟩, hRd1, hT1⟩
          rw [hs14.out] at hRd1
          rw [hM1.out] at hBL
          have hr1 := HR.tch hHeld.2.2 hT1 (by have h1 := hbs.out; have h20 := OF0.out.nr; have h30 := OF0.out.n5; have h9 := hl9.out; simp; omega) (by have h1 := hbs.out; omega)
          have R51 : Row wn1 b5 #[.int .u64 v0, .int .u64 v1, .int .u64 v2, .int .u64 v3, .int .u64 v4, .int .u64 v5, .int .u64 v6, .int .u64 v7, .int .u64 y7, .int .u64 y8, .int .u64 y9, .int .u64 y10, .int .u64 px0, .int .u64 py0, .slice (some ⟨g0, 0, none⟩) 32 e0, .int .u64 0, .int .u64 0, .slice none 0 0, .int .u64 0, .int .u64 0, .bool false, .int .u64 0, .int .u64 0, .bool false, .int .u64 0, .int .u64 0, .bool false, .int .u64 0, .int .u64 0, .int .u64 0, .int .u64 0, .int .u64 0] 37 := hT1.row (show Row qb.drew b5 #[.int .u64 v0, .int .u64 v1, .int .u64 v2, .int .u64 v3, .int .u64 v4, .int .u64 v5, .int .u64 v6, .int .u64 v7, .int .u64 y7, .int .u64 y8, .int .u64 y9, .int .u64 y10, .int .u64 px0, .int .u64 py0, .slice (some ⟨g0, 0, none⟩) 32 e0, .int .u64 0, .int .u64 0, .slice none 0 0, .int .u64 0, .int .u64 0, .bool false, .int .u64 0, .int .u64 0, .bool false, .int .u64 0, .int .u64 0, .bool false, .int .u64 0, .int .u64 0, .int .u64 0, .int .u64 0, .int .u64 0] 37 from R5.out) (by have h1 := hbs.out; omega)
          refine hK.out _ _ ?_ (fun hHeld => ?_)
          · exact ⟨HR.cell hr1 (b := b9) (cs := #[.int .u64 px1, .int .u64 py1]) (t := 24) (by simp) 0 rfl, HR.cell hr1 (b := b9) (cs := #[.int .u64 px1, .int .u64 py1]) (t := 24) (by simp) 1 rfl, hr1⟩
          clear hK K
          try simp only [Act.put, List.setIfInBounds_toArray, List.set_cons_zero, List.set_cons_succ]
          refine stepH 4 (by kernel_rfl) rfl (by rfl) (fun K hK => ?_)
          go_simp
          refine (bClone tb tq 32 tc M1 hMl1.out (by decide) wn1 hBL (by decide)).mono ?_
          rintro e wn2 ⟨g1, e1, rfl, hO, hb2⟩
          have hr2 := HR.next hHeld.2.2 hb2
          have R52 := R51.below hb2 R51.lt
          have hRd2 := RdAt.next hRd1 hb2
          have hl52 := R51.lt
          have hlr2 : br < wn1.heap.size := by obtain ⟨_, _, h, _, _⟩ := hRd1; exact h.lt
          refine hK.out _ _ ?_ (fun hHeld => ?_)
          · exact ⟨HR.cell hr2 (b := b9) (cs := #[.int .u64 px1, .int .u64 py1]) (t := 24) (by simp) 0 rfl, HR.cell hr2 (b := b9) (cs := #[.int .u64 px1, .int .u64 py1]) (t := 24) (by simp) 1 rfl, hr2⟩
          clear hK K
          try simp only [Act.put, List.setIfInBounds_toArray, List.set_cons_zero, List.set_cons_succ]
          refine tk 5 hHeld ?_; refine tk 7 hHeld ?_
          have k0 := R52.cell 15 rfl
          have f0 := R52.free 15
          have k1 := R52.cell 16 rfl
          have f1 := R52.free 16
          have k2 := R52.cell 17 rfl
          have f2 := R52.free 17
          have hoth := HR.other (HR.other (HR.other (hHeld.2.2) (D := b5) (o := 15) (v := .int .u64 px1) (by have h1 := hbs.out; have h20 := OF0.out.nr; have h30 := OF0.out.n5; have h9 := hl9.out; simp; omega) (by have h1 := hbs.out; omega)) (D := b5) (o := 16) (v := .int .u64 py1) (by have h1 := hbs.out; have h20 := OF0.out.nr; have h30 := OF0.out.n5; have h9 := hl9.out; simp; omega) (by have h1 := hbs.out; omega)) (D := b5) (o := 17) (v := .slice (some ⟨g1, 0, none⟩) 32 e1) (by have h1 := hbs.out; have h20 := OF0.out.nr; have h30 := OF0.out.n5; have h9 := hl9.out; simp; omega) (by have h1 := hbs.out; omega)
          refine stepH 8 (by kernel_rfl) rfl (by rfl) (fun K hK => ?_)
          go_simp
          refine hK.out _ _ ?_ (fun hHeld => ?_)
          · exact ⟨HR.cell hoth (b := b9) (cs := #[.int .u64 px1, .int .u64 py1]) (t := 24) (by simp) 0 rfl, HR.cell hoth (b := b9) (cs := #[.int .u64 px1, .int .u64 py1]) (t := 24) (by simp) 1 rfl, hoth⟩
          clear hK K
          try simp only [Act.put, List.setIfInBounds_toArray, List.set_cons_zero, List.set_cons_succ]
          refine wpAnyH_done (by kernel_rfl) (NoPanic.normal ?_) _
          obtain ⟨gg, cap, z1, hv0, hge, hrow, hle, hcm2, hsz, htk⟩ := hO.size (by rw [hMl1.out]; decide)
          simp only [Value.slice.injEq, Option.some.injEq, Addr.mk.injEq, and_true] at hv0
          obtain ⟨rfl, hv1, rfl⟩ := hv0
          have OF1 : Hid (OwF g1 e1 z1 M1 b5 br) := Lib.hid ⟨hMl1.out, by rw [hMl1.out] at hle; exact hle, hcm2, hsz, by rw [hMl1.out] at htk; exact htk, by omega, by omega⟩
          have HN : Hid (HR w (((wn2.setCell ⟨b5, 15, none⟩ (.int .u64 px1)).setCell ⟨b5, 16, none⟩ (.int .u64 py1)).setCell ⟨b5, 17, none⟩ (.slice (some ⟨g1, 0, none⟩) 32 e1)) [(b5, #[.int .u64 v0, .int .u64 v1, .int .u64 v2, .int .u64 v3, .int .u64 v4, .int .u64 v5, .int .u64 v6, .int .u64 v7, .int .u64 y7, .int .u64 y8, .int .u64 y9, .int .u64 y10, .int .u64 px0, .int .u64 py0, .slice (some ⟨g0, 0, none⟩) 32 e0, .int .u64 px1, .int .u64 py1, .slice (some ⟨g1, 0, none⟩) 32 e1, .int .u64 0, .int .u64 0, .bool false, .int .u64 0, .int .u64 0, .bool false, .int .u64 0, .int .u64 0, .bool false, .int .u64 0, .int .u64 0, .int .u64 0, .int .u64 0, .int .u64 0], 37), (b2, #[.int .u64 0, .int .u64 0, .int .u64 0, .int .u64 0, .int .u64 0, .int .u64 0, .int .u64 0, .int .u64 0, .int .u64 0, .int .u64 0, .int .u64 0, .int .u64 0, .int .u64 0, .int .u64 0, .slice none 0 0, .int .u64 0, .int .u64 0, .slice none 0 0, .int .u64 0, .int .u64 0, .bool false, .int .u64 0, .int .u64 0, .bool false, .int .u64 0, .int .u64 0, .bool false, .int .u64 0, .int .u64 0, .int .u64 0, .int .u64 0, .int .u64 0], 37), (g0, z0, 5), (g1, z1, 5)]) := Lib.hid (HR.sub (HR.add (HR.add hoth (show Row (((wn2.setCell ⟨b5, 15, none⟩ (.int .u64 px1)).setCell ⟨b5, 16, none⟩ (.int .u64 py1)).setCell ⟨b5, 17, none⟩ (.slice (some ⟨g1, 0, none⟩) 32 e1)) b5 #[.int .u64 v0, .int .u64 v1, .int .u64 v2, .int .u64 v3, .int .u64 v4, .int .u64 v5, .int .u64 v6, .int .u64 v7, .int .u64 y7, .int .u64 y8, .int .u64 y9, .int .u64 y10, .int .u64 px0, .int .u64 py0, .slice (some ⟨g0, 0, none⟩) 32 e0, .int .u64 px1, .int .u64 py1, .slice (some ⟨g1, 0, none⟩) 32 e1, .int .u64 0, .int .u64 0, .bool false, .int .u64 0, .int .u64 0, .bool false, .int .u64 0, .int .u64 0, .bool false, .int .u64 0, .int .u64 0, .int .u64 0, .int .u64 0, .int .u64 0] 37 from (((R52.set 15 _).set 16 _).set 17 _))) (show Row (((wn2.setCell ⟨b5, 15, none⟩ (.int .u64 px1)).setCell ⟨b5, 16, none⟩ (.int .u64 py1)).setCell ⟨b5, 17, none⟩ (.slice (some ⟨g1, 0, none⟩) 32 e1)) g1 z1 5 from (((hrow.other (v := .int .u64 px1) (c := b5) (o := 15) (by have := OF1.out.n5; omega)).other (v := .int .u64 py1) (c := b5) (o := 16) (by have := OF1.out.n5; omega)).other (v := .slice (some ⟨g1, 0, none⟩) 32 e1) (c := b5) (o := 17) (by have := OF1.out.n5; omega)))) (by simp))
          have RN : Hid (RdAt w.heap.size br s14 (((wn2.setCell ⟨b5, 15, none⟩ (.int .u64 px1)).setCell ⟨b5, 16, none⟩ (.int .u64 py1)).setCell ⟨b5, 17, none⟩ (.slice (some ⟨g1, 0, none⟩) 32 e1))) := Lib.hid (RdAt.other (RdAt.other (RdAt.other (hRd2) (by have := hbs.out; omega) (by have := hbs.out; omega)) (by have := hbs.out; omega) (by have := hbs.out; omega)) (by have := hbs.out; omega) (by have := hbs.out; omega))
          clear hHeld H9 R5 HB RB hl9 hBL hbl hkc hcm hne hRd1 hT1 hr1 R51 hr2 R52 hRd2 hl52 hlr2 k0 k1 k2 f0 f1 f2 hoth hO hb2 hge hrow hle hcm2 hsz htk hv1
          go_wp2_with fail
          go_roundw
          case rel => exact Or.inr (Or.inr ⟨g0, e0, z0, g1, e1, z1, rfl, OF0, OF1, HN, RN⟩)
          case measure => simp [intOf]
        · go_wp2_with fail
          refine (rNumber w.heap.size br s14 hlt14.out _ RJ.out).mono ?_
          rintro e q15 ⟨rfl, hRd, hT⟩
          have H115 : Hid (HR w q15 [(b5, #[.int .u64 v0, .int .u64 v1, .int .u64 v2, .int .u64 v3, .int .u64 v4, .int .u64 v5, .int .u64 v6, .int .u64 v7, .int .u64 y7, .int .u64 y8, .int .u64 y9, .int .u64 y10, .int .u64 px0, .int .u64 py0, .slice (some ⟨g0, 0, none⟩) 32 e0, .int .u64 px1, .int .u64 py1, .slice (some ⟨g1, 0, none⟩) 32 e1, .int .u64 0, .int .u64 0, .bool false, .int .u64 0, .int .u64 0, .bool false, .int .u64 0, .int .u64 0, .bool false, .int .u64 0, .int .u64 0, .int .u64 0, .int .u64 0, .int .u64 0], 37), (b2, #[.int .u64 0, .int .u64 0, .int .u64 0, .int .u64 0, .int .u64 0, .int .u64 0, .int .u64 0, .int .u64 0, .int .u64 0, .int .u64 0, .int .u64 0, .int .u64 0, .int .u64 0, .int .u64 0, .slice none 0 0, .int .u64 0, .int .u64 0, .slice none 0 0, .int .u64 0, .int .u64 0, .bool false, .int .u64 0, .int .u64 0, .bool false, .int .u64 0, .int .u64 0, .bool false, .int .u64 0, .int .u64 0, .int .u64 0, .int .u64 0, .int .u64 0], 37), (g0, z0, 5), (g1, z1, 5)]) := Lib.hid (HR.tch HJ.out hT (by have := hbs.out; have h20 := OF0.out.nr; have h30 := OF0.out.n5; have h21 := OF1.out.nr; have h31 := OF1.out.n5; simp; omega) (by have := hbs.out; omega))
          have hlt' := Obol.tkS_lt 8 hlt14.out
          obtain ⟨s15, hs15⟩ : ∃ s, Obol.tkS 8 s14 = s := ⟨_, rfl⟩
          rw [hs15] at hRd hlt'
          have Rd15 := Lib.hid hRd
          have hlt15 := Lib.hid hlt'
          replace hs15 := Lib.hid hs15
          clear hRd hT hlt' HJ RJ
          obtain ⟨w0, hvw0⟩ : ∃ v : Int, ((Obol.rdN s14 : Nat) : Int) = v := ⟨_, rfl⟩
          rw [hvw0]
          replace hvw0 := Lib.hid hvw0
          go_wp2_with fail
          refine (rNumber w.heap.size br s15 hlt15.out _ Rd15.out).mono ?_
          rintro e q16 ⟨rfl, hRd, hT⟩
          have H116 : Hid (HR w q16 [(b5, #[.int .u64 v0, .int .u64 v1, .int .u64 v2, .int .u64 v3, .int .u64 v4, .int .u64 v5, .int .u64 v6, .int .u64 v7, .int .u64 y7, .int .u64 y8, .int .u64 y9, .int .u64 y10, .int .u64 px0, .int .u64 py0, .slice (some ⟨g0, 0, none⟩) 32 e0, .int .u64 px1, .int .u64 py1, .slice (some ⟨g1, 0, none⟩) 32 e1, .int .u64 0, .int .u64 0, .bool false, .int .u64 0, .int .u64 0, .bool false, .int .u64 0, .int .u64 0, .bool false, .int .u64 0, .int .u64 0, .int .u64 0, .int .u64 0, .int .u64 0], 37), (b2, #[.int .u64 0, .int .u64 0, .int .u64 0, .int .u64 0, .int .u64 0, .int .u64 0, .int .u64 0, .int .u64 0, .int .u64 0, .int .u64 0, .int .u64 0, .int .u64 0, .int .u64 0, .int .u64 0, .slice none 0 0, .int .u64 0, .int .u64 0, .slice none 0 0, .int .u64 0, .int .u64 0, .bool false, .int .u64 0, .int .u64 0, .bool false, .int .u64 0, .int .u64 0, .bool false, .int .u64 0, .int .u64 0, .int .u64 0, .int .u64 0, .int .u64 0], 37), (g0, z0, 5), (g1, z1, 5)]) := Lib.hid (HR.tch H115.out hT (by have := hbs.out; have h20 := OF0.out.nr; have h30 := OF0.out.n5; have h21 := OF1.out.nr; have h31 := OF1.out.n5; simp; omega) (by have := hbs.out; omega))
          have hlt' := Obol.tkS_lt 8 hlt15.out
          obtain ⟨s16, hs16⟩ : ∃ s, Obol.tkS 8 s15 = s := ⟨_, rfl⟩
          rw [hs16] at hRd hlt'
          have Rd16 := Lib.hid hRd
          have hlt16 := Lib.hid hlt'
          replace hs16 := Lib.hid hs16
          clear hRd hT hlt' H115 Rd15
          obtain ⟨w1, hvw1⟩ : ∃ v : Int, ((Obol.rdN s15 : Nat) : Int) = v := ⟨_, rfl⟩
          rw [hvw1]
          replace hvw1 := Lib.hid hvw1
          have k_a0 := H116.out.cell (b := b5) (cs := #[.int .u64 v0, .int .u64 v1, .int .u64 v2, .int .u64 v3, .int .u64 v4, .int .u64 v5, .int .u64 v6, .int .u64 v7, .int .u64 y7, .int .u64 y8, .int .u64 y9, .int .u64 y10, .int .u64 px0, .int .u64 py0, .slice (some ⟨g0, 0, none⟩) 32 e0, .int .u64 px1, .int .u64 py1, .slice (some ⟨g1, 0, none⟩) 32 e1, .int .u64 0, .int .u64 0, .bool false, .int .u64 0, .int .u64 0, .bool false, .int .u64 0, .int .u64 0, .bool false, .int .u64 0, .int .u64 0, .int .u64 0, .int .u64 0, .int .u64 0]) (t := 37) (by simp) 18 rfl
          have f_a0 := H116.out.free (b := b5) (cs := #[.int .u64 v0, .int .u64 v1, .int .u64 v2, .int .u64 v3, .int .u64 v4, .int .u64 v5, .int .u64 v6, .int .u64 v7, .int .u64 y7, .int .u64 y8, .int .u64 y9, .int .u64 y10, .int .u64 px0, .int .u64 py0, .slice (some ⟨g0, 0, none⟩) 32 e0, .int .u64 px1, .int .u64 py1, .slice (some ⟨g1, 0, none⟩) 32 e1, .int .u64 0, .int .u64 0, .bool false, .int .u64 0, .int .u64 0, .bool false, .int .u64 0, .int .u64 0, .bool false, .int .u64 0, .int .u64 0, .int .u64 0, .int .u64 0, .int .u64 0]) (t := 37) (by simp) 18
          have k_a1 := H116.out.cell (b := b5) (cs := #[.int .u64 v0, .int .u64 v1, .int .u64 v2, .int .u64 v3, .int .u64 v4, .int .u64 v5, .int .u64 v6, .int .u64 v7, .int .u64 y7, .int .u64 y8, .int .u64 y9, .int .u64 y10, .int .u64 px0, .int .u64 py0, .slice (some ⟨g0, 0, none⟩) 32 e0, .int .u64 px1, .int .u64 py1, .slice (some ⟨g1, 0, none⟩) 32 e1, .int .u64 0, .int .u64 0, .bool false, .int .u64 0, .int .u64 0, .bool false, .int .u64 0, .int .u64 0, .bool false, .int .u64 0, .int .u64 0, .int .u64 0, .int .u64 0, .int .u64 0]) (t := 37) (by simp) 19 rfl
          have f_a1 := H116.out.free (b := b5) (cs := #[.int .u64 v0, .int .u64 v1, .int .u64 v2, .int .u64 v3, .int .u64 v4, .int .u64 v5, .int .u64 v6, .int .u64 v7, .int .u64 y7, .int .u64 y8, .int .u64 y9, .int .u64 y10, .int .u64 px0, .int .u64 py0, .slice (some ⟨g0, 0, none⟩) 32 e0, .int .u64 px1, .int .u64 py1, .slice (some ⟨g1, 0, none⟩) 32 e1, .int .u64 0, .int .u64 0, .bool false, .int .u64 0, .int .u64 0, .bool false, .int .u64 0, .int .u64 0, .bool false, .int .u64 0, .int .u64 0, .int .u64 0, .int .u64 0, .int .u64 0]) (t := 37) (by simp) 19
          go_upto_region 18 with fail
          have G41 : Hid (HR w ((q16.setCell ⟨b5, 18, none⟩ (.int .u64 w0)).setCell ⟨b5, 19, none⟩ (.int .u64 w1)) [(b5, #[.int .u64 v0, .int .u64 v1, .int .u64 v2, .int .u64 v3, .int .u64 v4, .int .u64 v5, .int .u64 v6, .int .u64 v7, .int .u64 y7, .int .u64 y8, .int .u64 y9, .int .u64 y10, .int .u64 px0, .int .u64 py0, .slice (some ⟨g0, 0, none⟩) 32 e0, .int .u64 px1, .int .u64 py1, .slice (some ⟨g1, 0, none⟩) 32 e1, .int .u64 w0, .int .u64 w1, .bool false, .int .u64 0, .int .u64 0, .bool false, .int .u64 0, .int .u64 0, .bool false, .int .u64 0, .int .u64 0, .int .u64 0, .int .u64 0, .int .u64 0], 37), (b2, #[.int .u64 0, .int .u64 0, .int .u64 0, .int .u64 0, .int .u64 0, .int .u64 0, .int .u64 0, .int .u64 0, .int .u64 0, .int .u64 0, .int .u64 0, .int .u64 0, .int .u64 0, .int .u64 0, .slice none 0 0, .int .u64 0, .int .u64 0, .slice none 0 0, .int .u64 0, .int .u64 0, .bool false, .int .u64 0, .int .u64 0, .bool false, .int .u64 0, .int .u64 0, .bool false, .int .u64 0, .int .u64 0, .int .u64 0, .int .u64 0, .int .u64 0], 37), (g0, z0, 5), (g1, z1, 5)]) := Lib.hid (HR.put (HR.put (H116.out) (by have := hbs.out; have h20 := OF0.out.nr; have h30 := OF0.out.n5; have h21 := OF1.out.nr; have h31 := OF1.out.n5; simp; omega) (by have := hbs.out; omega) 18 (.int .u64 w0)) (by have := hbs.out; have h20 := OF0.out.nr; have h30 := OF0.out.n5; have h21 := OF1.out.nr; have h31 := OF1.out.n5; simp; omega) (by have := hbs.out; omega) 19 (.int .u64 w1))
          have Q41 : Hid (RdAt w.heap.size br s16 ((q16.setCell ⟨b5, 18, none⟩ (.int .u64 w0)).setCell ⟨b5, 19, none⟩ (.int .u64 w1))) := Lib.hid (RdAt.other (RdAt.other (Rd16.out) (by have := hbs.out; omega) (by have := hbs.out; omega)) (by have := hbs.out; omega) (by have := hbs.out; omega))
          clear k_a0 f_a0 k_a1 f_a1 H116 Rd16
          generalize ((q16.setCell ⟨b5, 18, none⟩ (.int .u64 w0)).setCell ⟨b5, 19, none⟩ (.int .u64 w1)) = m41 at G41 Q41 ⊢
          go_wp2_with fail
          refine (rProof w.heap.size br s16 hlt16.out _ Q41.out (by have := hbs.out; have := G41.out.2.size; omega)).mono ?_
          rintro e q17 ⟨rfl, hRd, hT⟩
          have H117 : Hid (HR w q17 [(b5, #[.int .u64 v0, .int .u64 v1, .int .u64 v2, .int .u64 v3, .int .u64 v4, .int .u64 v5, .int .u64 v6, .int .u64 v7, .int .u64 y7, .int .u64 y8, .int .u64 y9, .int .u64 y10, .int .u64 px0, .int .u64 py0, .slice (some ⟨g0, 0, none⟩) 32 e0, .int .u64 px1, .int .u64 py1, .slice (some ⟨g1, 0, none⟩) 32 e1, .int .u64 w0, .int .u64 w1, .bool false, .int .u64 0, .int .u64 0, .bool false, .int .u64 0, .int .u64 0, .bool false, .int .u64 0, .int .u64 0, .int .u64 0, .int .u64 0, .int .u64 0], 37), (b2, #[.int .u64 0, .int .u64 0, .int .u64 0, .int .u64 0, .int .u64 0, .int .u64 0, .int .u64 0, .int .u64 0, .int .u64 0, .int .u64 0, .int .u64 0, .int .u64 0, .int .u64 0, .int .u64 0, .slice none 0 0, .int .u64 0, .int .u64 0, .slice none 0 0, .int .u64 0, .int .u64 0, .bool false, .int .u64 0, .int .u64 0, .bool false, .int .u64 0, .int .u64 0, .bool false, .int .u64 0, .int .u64 0, .int .u64 0, .int .u64 0, .int .u64 0], 37), (g0, z0, 5), (g1, z1, 5)]) := Lib.hid (HR.tch G41.out hT (by have := hbs.out; have h20 := OF0.out.nr; have h30 := OF0.out.n5; have h21 := OF1.out.nr; have h31 := OF1.out.n5; simp; omega) (by have := hbs.out; omega))
          have hlt' := Obol.pfN_lt hlt16.out 3
          obtain ⟨s17, hs17⟩ : ∃ s, Obol.pfN s16 3 = s := ⟨_, rfl⟩
          rw [hs17] at hRd hlt'
          have Rd17 := Lib.hid hRd
          have hlt17 := Lib.hid hlt'
          replace hs17 := Lib.hid hs17
          clear hRd hT hlt' G41 Q41
          simp only [pfA]
          obtain ⟨pb0, hvpb0⟩ : ∃ v : Bool, (Obol.pfV s16 3 0).1 = v := ⟨_, rfl⟩
          rw [hvpb0]
          replace hvpb0 := Lib.hid hvpb0
          obtain ⟨pu0, hvpu0⟩ : ∃ v : Int, (((Obol.pfV s16 3 0).2.1 : Nat) : Int) = v := ⟨_, rfl⟩
          rw [hvpu0]
          replace hvpu0 := Lib.hid hvpu0
          obtain ⟨pv0, hvpv0⟩ : ∃ v : Int, (((Obol.pfV s16 3 0).2.2 : Nat) : Int) = v := ⟨_, rfl⟩
          rw [hvpv0]
          replace hvpv0 := Lib.hid hvpv0
          obtain ⟨pb1, hvpb1⟩ : ∃ v : Bool, (Obol.pfV s16 3 1).1 = v := ⟨_, rfl⟩
          rw [hvpb1]
          replace hvpb1 := Lib.hid hvpb1
          obtain ⟨pu1, hvpu1⟩ : ∃ v : Int, (((Obol.pfV s16 3 1).2.1 : Nat) : Int) = v := ⟨_, rfl⟩
          rw [hvpu1]
          replace hvpu1 := Lib.hid hvpu1
          obtain ⟨pv1, hvpv1⟩ : ∃ v : Int, (((Obol.pfV s16 3 1).2.2 : Nat) : Int) = v := ⟨_, rfl⟩
          rw [hvpv1]
          replace hvpv1 := Lib.hid hvpv1
          obtain ⟨pb2, hvpb2⟩ : ∃ v : Bool, (Obol.pfV s16 3 2).1 = v := ⟨_, rfl⟩
          rw [hvpb2]
          replace hvpb2 := Lib.hid hvpb2
          obtain ⟨pu2, hvpu2⟩ : ∃ v : Int, (((Obol.pfV s16 3 2).2.1 : Nat) : Int) = v := ⟨_, rfl⟩
          rw [hvpu2]
          replace hvpu2 := Lib.hid hvpu2
          obtain ⟨pv2, hvpv2⟩ : ∃ v : Int, (((Obol.pfV s16 3 2).2.2 : Nat) : Int) = v := ⟨_, rfl⟩
          rw [hvpv2]
          replace hvpv2 := Lib.hid hvpv2
          have hth := Row.thereMid (H117.out.row (b := b5) (cs := #[.int .u64 v0, .int .u64 v1, .int .u64 v2, .int .u64 v3, .int .u64 v4, .int .u64 v5, .int .u64 v6, .int .u64 v7, .int .u64 y7, .int .u64 y8, .int .u64 y9, .int .u64 y10, .int .u64 px0, .int .u64 py0, .slice (some ⟨g0, 0, none⟩) 32 e0, .int .u64 px1, .int .u64 py1, .slice (some ⟨g1, 0, none⟩) 32 e1, .int .u64 w0, .int .u64 w1, .bool false, .int .u64 0, .int .u64 0, .bool false, .int .u64 0, .int .u64 0, .bool false, .int .u64 0, .int .u64 0, .int .u64 0, .int .u64 0, .int .u64 0]) (t := 37) (by simp)) 20 9 (by simp)
          go_upto_region 19 with (refine wpList_store_mid rfl _ _ _ rfl b5 20 #[.bool pb0, .int .u64 pu0, .int .u64 pv0, .bool pb1, .int .u64 pu1, .int .u64 pv1, .bool pb2, .int .u64 pu2, .int .u64 pv2] rfl rfl hth sizPR (one9 _ _ _ _ _ _ _ _ _) ?_)
          have G42 : Hid (HR w (q17.setCells b5 20 [.bool pb0, .int .u64 pu0, .int .u64 pv0, .bool pb1, .int .u64 pu1, .int .u64 pv1, .bool pb2, .int .u64 pu2, .int .u64 pv2]) [(b5, #[.int .u64 v0, .int .u64 v1, .int .u64 v2, .int .u64 v3, .int .u64 v4, .int .u64 v5, .int .u64 v6, .int .u64 v7, .int .u64 y7, .int .u64 y8, .int .u64 y9, .int .u64 y10, .int .u64 px0, .int .u64 py0, .slice (some ⟨g0, 0, none⟩) 32 e0, .int .u64 px1, .int .u64 py1, .slice (some ⟨g1, 0, none⟩) 32 e1, .int .u64 w0, .int .u64 w1, .bool pb0, .int .u64 pu0, .int .u64 pv0, .bool pb1, .int .u64 pu1, .int .u64 pv1, .bool pb2, .int .u64 pu2, .int .u64 pv2, .int .u64 0, .int .u64 0, .int .u64 0], 37), (b2, #[.int .u64 0, .int .u64 0, .int .u64 0, .int .u64 0, .int .u64 0, .int .u64 0, .int .u64 0, .int .u64 0, .int .u64 0, .int .u64 0, .int .u64 0, .int .u64 0, .int .u64 0, .int .u64 0, .slice none 0 0, .int .u64 0, .int .u64 0, .slice none 0 0, .int .u64 0, .int .u64 0, .bool false, .int .u64 0, .int .u64 0, .bool false, .int .u64 0, .int .u64 0, .bool false, .int .u64 0, .int .u64 0, .int .u64 0, .int .u64 0, .int .u64 0], 37), (g0, z0, 5), (g1, z1, 5)]) := Lib.hid (HR.putMany H117.out (by have := hbs.out; have h20 := OF0.out.nr; have h30 := OF0.out.n5; have h21 := OF1.out.nr; have h31 := OF1.out.n5; simp; omega) (by have := hbs.out; omega) [.bool pb0, .int .u64 pu0, .int .u64 pv0, .bool pb1, .int .u64 pu1, .int .u64 pv1, .bool pb2, .int .u64 pu2, .int .u64 pv2] 20 (by simp) rfl)
          have Q42 : Hid (RdAt w.heap.size br s17 (q17.setCells b5 20 [.bool pb0, .int .u64 pu0, .int .u64 pv0, .bool pb1, .int .u64 pu1, .int .u64 pv1, .bool pb2, .int .u64 pu2, .int .u64 pv2])) := Lib.hid (RdAt.otherMany (by have := hbs.out; omega) (by have := hbs.out; omega) [.bool pb0, .int .u64 pu0, .int .u64 pv0, .bool pb1, .int .u64 pu1, .int .u64 pv1, .bool pb2, .int .u64 pu2, .int .u64 pv2] 20 _ Rd17.out)
          clear hth H117 Rd17
          try simp only [Array.toList]
          generalize (q17.setCells b5 20 [.bool pb0, .int .u64 pu0, .int .u64 pv0, .bool pb1, .int .u64 pu1, .int .u64 pv1, .bool pb2, .int .u64 pu2, .int .u64 pv2]) = m42 at G42 Q42 ⊢
          go_wp2_with fail
          refine (rPoint w.heap.size br s17 hlt17.out _ Q42.out).mono ?_
          rintro e q18 ⟨rfl, hRd, hT⟩
          have H118 : Hid (HR w q18 [(b5, #[.int .u64 v0, .int .u64 v1, .int .u64 v2, .int .u64 v3, .int .u64 v4, .int .u64 v5, .int .u64 v6, .int .u64 v7, .int .u64 y7, .int .u64 y8, .int .u64 y9, .int .u64 y10, .int .u64 px0, .int .u64 py0, .slice (some ⟨g0, 0, none⟩) 32 e0, .int .u64 px1, .int .u64 py1, .slice (some ⟨g1, 0, none⟩) 32 e1, .int .u64 w0, .int .u64 w1, .bool pb0, .int .u64 pu0, .int .u64 pv0, .bool pb1, .int .u64 pu1, .int .u64 pv1, .bool pb2, .int .u64 pu2, .int .u64 pv2, .int .u64 0, .int .u64 0, .int .u64 0], 37), (b2, #[.int .u64 0, .int .u64 0, .int .u64 0, .int .u64 0, .int .u64 0, .int .u64 0, .int .u64 0, .int .u64 0, .int .u64 0, .int .u64 0, .int .u64 0, .int .u64 0, .int .u64 0, .int .u64 0, .slice none 0 0, .int .u64 0, .int .u64 0, .slice none 0 0, .int .u64 0, .int .u64 0, .bool false, .int .u64 0, .int .u64 0, .bool false, .int .u64 0, .int .u64 0, .bool false, .int .u64 0, .int .u64 0, .int .u64 0, .int .u64 0, .int .u64 0], 37), (g0, z0, 5), (g1, z1, 5)]) := Lib.hid (HR.tch G42.out hT (by have := hbs.out; have h20 := OF0.out.nr; have h30 := OF0.out.n5; have h21 := OF1.out.nr; have h31 := OF1.out.n5; simp; omega) (by have := hbs.out; omega))
          have hlt' := Obol.ptS_lt hlt17.out
          obtain ⟨s18, hs18⟩ : ∃ s, Obol.ptS s17 = s := ⟨_, rfl⟩
          rw [hs18] at hRd hlt'
          have Rd18 := Lib.hid hRd
          have hlt18 := Lib.hid hlt'
          replace hs18 := Lib.hid hs18
          clear hRd hT hlt' G42 Q42
          obtain ⟨v40, hvv40⟩ : ∃ v : Int, (((Obol.ptP s17).1 : Nat) : Int) = v := ⟨_, rfl⟩
          rw [hvv40]
          replace hvv40 := Lib.hid hvv40
          obtain ⟨v41, hvv41⟩ : ∃ v : Int, (((Obol.ptP s17).2 : Nat) : Int) = v := ⟨_, rfl⟩
          rw [hvv41]
          replace hvv41 := Lib.hid hvv41
          have k_gx := H118.out.cell (b := b5) (cs := #[.int .u64 v0, .int .u64 v1, .int .u64 v2, .int .u64 v3, .int .u64 v4, .int .u64 v5, .int .u64 v6, .int .u64 v7, .int .u64 y7, .int .u64 y8, .int .u64 y9, .int .u64 y10, .int .u64 px0, .int .u64 py0, .slice (some ⟨g0, 0, none⟩) 32 e0, .int .u64 px1, .int .u64 py1, .slice (some ⟨g1, 0, none⟩) 32 e1, .int .u64 w0, .int .u64 w1, .bool pb0, .int .u64 pu0, .int .u64 pv0, .bool pb1, .int .u64 pu1, .int .u64 pv1, .bool pb2, .int .u64 pu2, .int .u64 pv2, .int .u64 0, .int .u64 0, .int .u64 0]) (t := 37) (by simp) 29 rfl
          have f_gx := H118.out.free (b := b5) (cs := #[.int .u64 v0, .int .u64 v1, .int .u64 v2, .int .u64 v3, .int .u64 v4, .int .u64 v5, .int .u64 v6, .int .u64 v7, .int .u64 y7, .int .u64 y8, .int .u64 y9, .int .u64 y10, .int .u64 px0, .int .u64 py0, .slice (some ⟨g0, 0, none⟩) 32 e0, .int .u64 px1, .int .u64 py1, .slice (some ⟨g1, 0, none⟩) 32 e1, .int .u64 w0, .int .u64 w1, .bool pb0, .int .u64 pu0, .int .u64 pv0, .bool pb1, .int .u64 pu1, .int .u64 pv1, .bool pb2, .int .u64 pu2, .int .u64 pv2, .int .u64 0, .int .u64 0, .int .u64 0]) (t := 37) (by simp) 29
          have k_gy := H118.out.cell (b := b5) (cs := #[.int .u64 v0, .int .u64 v1, .int .u64 v2, .int .u64 v3, .int .u64 v4, .int .u64 v5, .int .u64 v6, .int .u64 v7, .int .u64 y7, .int .u64 y8, .int .u64 y9, .int .u64 y10, .int .u64 px0, .int .u64 py0, .slice (some ⟨g0, 0, none⟩) 32 e0, .int .u64 px1, .int .u64 py1, .slice (some ⟨g1, 0, none⟩) 32 e1, .int .u64 w0, .int .u64 w1, .bool pb0, .int .u64 pu0, .int .u64 pv0, .bool pb1, .int .u64 pu1, .int .u64 pv1, .bool pb2, .int .u64 pu2, .int .u64 pv2, .int .u64 0, .int .u64 0, .int .u64 0]) (t := 37) (by simp) 30 rfl
          have f_gy := H118.out.free (b := b5) (cs := #[.int .u64 v0, .int .u64 v1, .int .u64 v2, .int .u64 v3, .int .u64 v4, .int .u64 v5, .int .u64 v6, .int .u64 v7, .int .u64 y7, .int .u64 y8, .int .u64 y9, .int .u64 y10, .int .u64 px0, .int .u64 py0, .slice (some ⟨g0, 0, none⟩) 32 e0, .int .u64 px1, .int .u64 py1, .slice (some ⟨g1, 0, none⟩) 32 e1, .int .u64 w0, .int .u64 w1, .bool pb0, .int .u64 pu0, .int .u64 pv0, .bool pb1, .int .u64 pu1, .int .u64 pv1, .bool pb2, .int .u64 pu2, .int .u64 pv2, .int .u64 0, .int .u64 0, .int .u64 0]) (t := 37) (by simp) 30
          go_upto_region 20 with fail
          have G43 : Hid (HR w ((q18.setCell ⟨b5, 29, none⟩ (.int .u64 v40)).setCell ⟨b5, 30, none⟩ (.int .u64 v41)) [(b5, #[.int .u64 v0, .int .u64 v1, .int .u64 v2, .int .u64 v3, .int .u64 v4, .int .u64 v5, .int .u64 v6, .int .u64 v7, .int .u64 y7, .int .u64 y8, .int .u64 y9, .int .u64 y10, .int .u64 px0, .int .u64 py0, .slice (some ⟨g0, 0, none⟩) 32 e0, .int .u64 px1, .int .u64 py1, .slice (some ⟨g1, 0, none⟩) 32 e1, .int .u64 w0, .int .u64 w1, .bool pb0, .int .u64 pu0, .int .u64 pv0, .bool pb1, .int .u64 pu1, .int .u64 pv1, .bool pb2, .int .u64 pu2, .int .u64 pv2, .int .u64 v40, .int .u64 v41, .int .u64 0], 37), (b2, #[.int .u64 0, .int .u64 0, .int .u64 0, .int .u64 0, .int .u64 0, .int .u64 0, .int .u64 0, .int .u64 0, .int .u64 0, .int .u64 0, .int .u64 0, .int .u64 0, .int .u64 0, .int .u64 0, .slice none 0 0, .int .u64 0, .int .u64 0, .slice none 0 0, .int .u64 0, .int .u64 0, .bool false, .int .u64 0, .int .u64 0, .bool false, .int .u64 0, .int .u64 0, .bool false, .int .u64 0, .int .u64 0, .int .u64 0, .int .u64 0, .int .u64 0], 37), (g0, z0, 5), (g1, z1, 5)]) := Lib.hid (HR.put (HR.put (H118.out) (by have := hbs.out; have h20 := OF0.out.nr; have h30 := OF0.out.n5; have h21 := OF1.out.nr; have h31 := OF1.out.n5; simp; omega) (by have := hbs.out; omega) 29 (.int .u64 v40)) (by have := hbs.out; have h20 := OF0.out.nr; have h30 := OF0.out.n5; have h21 := OF1.out.nr; have h31 := OF1.out.n5; simp; omega) (by have := hbs.out; omega) 30 (.int .u64 v41))
          have Q43 : Hid (RdAt w.heap.size br s18 ((q18.setCell ⟨b5, 29, none⟩ (.int .u64 v40)).setCell ⟨b5, 30, none⟩ (.int .u64 v41))) := Lib.hid (RdAt.other (RdAt.other (Rd18.out) (by have := hbs.out; omega) (by have := hbs.out; omega)) (by have := hbs.out; omega) (by have := hbs.out; omega))
          clear k_gx f_gx k_gy f_gy H118 Rd18
          generalize ((q18.setCell ⟨b5, 29, none⟩ (.int .u64 v40)).setCell ⟨b5, 30, none⟩ (.int .u64 v41)) = m43 at G43 Q43 ⊢
          go_wp2_with fail
          refine (rNumber w.heap.size br s18 hlt18.out _ Q43.out).mono ?_
          rintro e q19 ⟨rfl, hRd, hT⟩
          have H119 : Hid (HR w q19 [(b5, #[.int .u64 v0, .int .u64 v1, .int .u64 v2, .int .u64 v3, .int .u64 v4, .int .u64 v5, .int .u64 v6, .int .u64 v7, .int .u64 y7, .int .u64 y8, .int .u64 y9, .int .u64 y10, .int .u64 px0, .int .u64 py0, .slice (some ⟨g0, 0, none⟩) 32 e0, .int .u64 px1, .int .u64 py1, .slice (some ⟨g1, 0, none⟩) 32 e1, .int .u64 w0, .int .u64 w1, .bool pb0, .int .u64 pu0, .int .u64 pv0, .bool pb1, .int .u64 pu1, .int .u64 pv1, .bool pb2, .int .u64 pu2, .int .u64 pv2, .int .u64 v40, .int .u64 v41, .int .u64 0], 37), (b2, #[.int .u64 0, .int .u64 0, .int .u64 0, .int .u64 0, .int .u64 0, .int .u64 0, .int .u64 0, .int .u64 0, .int .u64 0, .int .u64 0, .int .u64 0, .int .u64 0, .int .u64 0, .int .u64 0, .slice none 0 0, .int .u64 0, .int .u64 0, .slice none 0 0, .int .u64 0, .int .u64 0, .bool false, .int .u64 0, .int .u64 0, .bool false, .int .u64 0, .int .u64 0, .bool false, .int .u64 0, .int .u64 0, .int .u64 0, .int .u64 0, .int .u64 0], 37), (g0, z0, 5), (g1, z1, 5)]) := Lib.hid (HR.tch G43.out hT (by have := hbs.out; have h20 := OF0.out.nr; have h30 := OF0.out.n5; have h21 := OF1.out.nr; have h31 := OF1.out.n5; simp; omega) (by have := hbs.out; omega))
          have hlt' := Obol.tkS_lt 8 hlt18.out
          obtain ⟨s19, hs19⟩ : ∃ s, Obol.tkS 8 s18 = s := ⟨_, rfl⟩
          rw [hs19] at hRd hlt'
          have Rd19 := Lib.hid hRd
          have hlt19 := Lib.hid hlt'
          replace hs19 := Lib.hid hs19
          clear hRd hT hlt' G43 Q43
          obtain ⟨v42, hvv42⟩ : ∃ v : Int, ((Obol.rdN s18 : Nat) : Int) = v := ⟨_, rfl⟩
          rw [hvv42]
          replace hvv42 := Lib.hid hvv42
          have k_gz := H119.out.cell (b := b5) (cs := #[.int .u64 v0, .int .u64 v1, .int .u64 v2, .int .u64 v3, .int .u64 v4, .int .u64 v5, .int .u64 v6, .int .u64 v7, .int .u64 y7, .int .u64 y8, .int .u64 y9, .int .u64 y10, .int .u64 px0, .int .u64 py0, .slice (some ⟨g0, 0, none⟩) 32 e0, .int .u64 px1, .int .u64 py1, .slice (some ⟨g1, 0, none⟩) 32 e1, .int .u64 w0, .int .u64 w1, .bool pb0, .int .u64 pu0, .int .u64 pv0, .bool pb1, .int .u64 pu1, .int .u64 pv1, .bool pb2, .int .u64 pu2, .int .u64 pv2, .int .u64 v40, .int .u64 v41, .int .u64 0]) (t := 37) (by simp) 31 rfl
          have f_gz := H119.out.free (b := b5) (cs := #[.int .u64 v0, .int .u64 v1, .int .u64 v2, .int .u64 v3, .int .u64 v4, .int .u64 v5, .int .u64 v6, .int .u64 v7, .int .u64 y7, .int .u64 y8, .int .u64 y9, .int .u64 y10, .int .u64 px0, .int .u64 py0, .slice (some ⟨g0, 0, none⟩) 32 e0, .int .u64 px1, .int .u64 py1, .slice (some ⟨g1, 0, none⟩) 32 e1, .int .u64 w0, .int .u64 w1, .bool pb0, .int .u64 pu0, .int .u64 pv0, .bool pb1, .int .u64 pu1, .int .u64 pv1, .bool pb2, .int .u64 pu2, .int .u64 pv2, .int .u64 v40, .int .u64 v41, .int .u64 0]) (t := 37) (by simp) 31
          go_upto_region 21 with fail
          have G44 : Hid (HR w (q19.setCell ⟨b5, 31, none⟩ (.int .u64 v42)) [(b5, #[.int .u64 v0, .int .u64 v1, .int .u64 v2, .int .u64 v3, .int .u64 v4, .int .u64 v5, .int .u64 v6, .int .u64 v7, .int .u64 y7, .int .u64 y8, .int .u64 y9, .int .u64 y10, .int .u64 px0, .int .u64 py0, .slice (some ⟨g0, 0, none⟩) 32 e0, .int .u64 px1, .int .u64 py1, .slice (some ⟨g1, 0, none⟩) 32 e1, .int .u64 w0, .int .u64 w1, .bool pb0, .int .u64 pu0, .int .u64 pv0, .bool pb1, .int .u64 pu1, .int .u64 pv1, .bool pb2, .int .u64 pu2, .int .u64 pv2, .int .u64 v40, .int .u64 v41, .int .u64 v42], 37), (b2, #[.int .u64 0, .int .u64 0, .int .u64 0, .int .u64 0, .int .u64 0, .int .u64 0, .int .u64 0, .int .u64 0, .int .u64 0, .int .u64 0, .int .u64 0, .int .u64 0, .int .u64 0, .int .u64 0, .slice none 0 0, .int .u64 0, .int .u64 0, .slice none 0 0, .int .u64 0, .int .u64 0, .bool false, .int .u64 0, .int .u64 0, .bool false, .int .u64 0, .int .u64 0, .bool false, .int .u64 0, .int .u64 0, .int .u64 0, .int .u64 0, .int .u64 0], 37), (g0, z0, 5), (g1, z1, 5)]) := Lib.hid (HR.put (H119.out) (by have := hbs.out; have h20 := OF0.out.nr; have h30 := OF0.out.n5; have h21 := OF1.out.nr; have h31 := OF1.out.n5; simp; omega) (by have := hbs.out; omega) 31 (.int .u64 v42))
          have Q44 : Hid (RdAt w.heap.size br s19 (q19.setCell ⟨b5, 31, none⟩ (.int .u64 v42))) := Lib.hid (RdAt.other (Rd19.out) (by have := hbs.out; omega) (by have := hbs.out; omega))
          clear k_gz f_gz H119 Rd19
          generalize (q19.setCell ⟨b5, 31, none⟩ (.int .u64 v42)) = m44 at G44 Q44 ⊢
          have w_root : (0 : Int) ≤ v0 ∧ v0 ≤ 18446744073709551615 := by have h1 := hvv0.out; have h2 := Obol.rdN_lt hlt0.out; omega
          have w_inn : (0 : Int) ≤ v1 ∧ v1 ≤ 18446744073709551615 := by have h1 := hvv1.out; have h2 := Obol.rdN_lt hlt1.out; omega
          have w_out : (0 : Int) ≤ v2 ∧ v2 ≤ 18446744073709551615 := by have h1 := hvv2.out; have h2 := Obol.rdN_lt hlt2.out; omega
          have w_fx : (0 : Int) ≤ v3 ∧ v3 ≤ 18446744073709551615 := by have h1 := hvv3.out; have h2 := Obol.ptP_lt hlt3.out; omega
          have w_fy : (0 : Int) ≤ v4 ∧ v4 ≤ 18446744073709551615 := by have h1 := hvv4.out; have h2 := Obol.ptP_lt hlt3.out; omega
          have w_tx : (0 : Int) ≤ v5 ∧ v5 ≤ 18446744073709551615 := by have h1 := hvv5.out; have h2 := Obol.ptP_lt hlt4.out; omega
          have w_ty : (0 : Int) ≤ v6 ∧ v6 ≤ 18446744073709551615 := by have h1 := hvv6.out; have h2 := Obol.ptP_lt hlt4.out; omega
          have w_seq : (0 : Int) ≤ v7 ∧ v7 ≤ 18446744073709551615 := by have h1 := hvv7.out; have h2 := Obol.rdN_lt hlt5.out; omega
          have w_e0 : (0 : Int) ≤ y7 ∧ y7 ≤ 18446744073709551615 := by have h1 := hvy7.out; have h2 := Obol.rdN_lt hlt6.out; omega
          have w_e1 : (0 : Int) ≤ y8 ∧ y8 ≤ 18446744073709551615 := by have h1 := hvy8.out; have h2 := Obol.rdN_lt hlt7.out; omega
          have w_m0 : (0 : Int) ≤ y9 ∧ y9 ≤ 18446744073709551615 := by have h1 := hvy9.out; have h2 := Obol.rdN_lt hlt8.out; omega
          have w_m1 : (0 : Int) ≤ y10 ∧ y10 ≤ 18446744073709551615 := by have h1 := hvy10.out; have h2 := Obol.rdN_lt hlt9.out; omega
          have w_n0x : (0 : Int) ≤ px0 ∧ px0 ≤ 18446744073709551615 := by have h1 := hpx0.out; have h2 := Obol.ptP_lt hlt10.out; omega
          have w_n0y : (0 : Int) ≤ py0 ∧ py0 ≤ 18446744073709551615 := by have h1 := hpy0.out; have h2 := Obol.ptP_lt hlt10.out; omega
          have w_n1x : (0 : Int) ≤ px1 ∧ px1 ≤ 18446744073709551615 := by have h1 := hpx1.out; have h2 := Obol.ptP_lt hlt12.out; omega
          have w_n1y : (0 : Int) ≤ py1 ∧ py1 ≤ 18446744073709551615 := by have h1 := hpy1.out; have h2 := Obol.ptP_lt hlt12.out; omega
          have w_a0 : (0 : Int) ≤ w0 ∧ w0 ≤ 18446744073709551615 := by have h1 := hvw0.out; have h2 := Obol.rdN_lt hlt14.out; omega
          have w_a1 : (0 : Int) ≤ w1 ∧ w1 ≤ 18446744073709551615 := by have h1 := hvw1.out; have h2 := Obol.rdN_lt hlt15.out; omega
          have w_xa : (0 : Int) ≤ pu0 ∧ pu0 ≤ 18446744073709551615 := by have h1 := hvpu0.out; have h2 := Obol.pfV_lt hlt16.out 3 0; omega
          have w_ya : (0 : Int) ≤ pv0 ∧ pv0 ≤ 18446744073709551615 := by have h1 := hvpv0.out; have h2 := Obol.pfV_lt hlt16.out 3 0; omega
          have w_xb : (0 : Int) ≤ pu1 ∧ pu1 ≤ 18446744073709551615 := by have h1 := hvpu1.out; have h2 := Obol.pfV_lt hlt16.out 3 1; omega
          have w_yb : (0 : Int) ≤ pv1 ∧ pv1 ≤ 18446744073709551615 := by have h1 := hvpv1.out; have h2 := Obol.pfV_lt hlt16.out 3 1; omega
          have w_xc : (0 : Int) ≤ pu2 ∧ pu2 ≤ 18446744073709551615 := by have h1 := hvpu2.out; have h2 := Obol.pfV_lt hlt16.out 3 2; omega
          have w_yc : (0 : Int) ≤ pv2 ∧ pv2 ≤ 18446744073709551615 := by have h1 := hvpv2.out; have h2 := Obol.pfV_lt hlt16.out 3 2; omega
          have w_gx : (0 : Int) ≤ v40 ∧ v40 ≤ 18446744073709551615 := by have h1 := hvv40.out; have h2 := Obol.ptP_lt hlt17.out; omega
          have w_gy : (0 : Int) ≤ v41 ∧ v41 ≤ 18446744073709551615 := by have h1 := hvv41.out; have h2 := Obol.ptP_lt hlt17.out; omega
          have w_gz : (0 : Int) ≤ v42 ∧ v42 ≤ 18446744073709551615 := by have h1 := hvv42.out; have h2 := Obol.rdN_lt hlt18.out; omega
          have TO : Hid (TxOk ({ root := v0, inn := v1, out := v2, fx := v3, fy := v4, tx := v5, ty := v6, seq := v7, e0 := y7, e1 := y8, m0 := y9, m1 := y10, n0x := px0, n0y := py0, n1x := px1, n1y := py1, a0 := w0, a1 := w1, ia := pb0, xa := pu0, ya := pv0, ib := pb1, xb := pu1, yb := pv1, ic := pb2, xc := pu2, yc := pv2, gx := v40, gy := v41, gz := v42, s0 := some ⟨g0, 0, none⟩, l0 := 32, c0 := e0, s1 := some ⟨g1, 0, none⟩, l1 := 32, c1 := e1 } : TxD)) := Lib.hid { root0 := w_root.1, root1 := w_root.2, inn0 := w_inn.1, inn1 := w_inn.2, out0 := w_out.1, out1 := w_out.2, fx0 := w_fx.1, fx1 := w_fx.2, fy0 := w_fy.1, fy1 := w_fy.2, tx0 := w_tx.1, tx1 := w_tx.2, ty0 := w_ty.1, ty1 := w_ty.2, seq0 := w_seq.1, seq1 := w_seq.2, e00 := w_e0.1, e01 := w_e0.2, e10 := w_e1.1, e11 := w_e1.2, m00 := w_m0.1, m01 := w_m0.2, m10 := w_m1.1, m11 := w_m1.2, n0x0 := w_n0x.1, n0x1 := w_n0x.2, n0y0 := w_n0y.1, n0y1 := w_n0y.2, n1x0 := w_n1x.1, n1x1 := w_n1x.2, n1y0 := w_n1y.1, n1y1 := w_n1y.2, a00 := w_a0.1, a01 := w_a0.2, a10 := w_a1.1, a11 := w_a1.2, xa0 := w_xa.1, xa1 := w_xa.2, ya0 := w_ya.1, ya1 := w_ya.2, xb0 := w_xb.1, xb1 := w_xb.2, yb0 := w_yb.1, yb1 := w_yb.2, xc0 := w_xc.1, xc1 := w_xc.2, yc0 := w_yc.1, yc1 := w_yc.2, gx0 := w_gx.1, gx1 := w_gx.2, gy0 := w_gy.1, gy1 := w_gy.2, gz0 := w_gz.1, gz1 := w_gz.2 }
          clear w_root w_inn w_out w_fx w_fy w_tx w_ty w_seq w_e0 w_e1 w_m0 w_m1 w_n0x w_n0y w_n1x w_n1y w_a0 w_a1 w_xa w_ya w_xb w_yb w_xc w_yc w_gx w_gy w_gz
          have RC : Hid (RdC L ({ root := v0, inn := v1, out := v2, fx := v3, fy := v4, tx := v5, ty := v6, seq := v7, e0 := y7, e1 := y8, m0 := y9, m1 := y10, n0x := px0, n0y := py0, n1x := px1, n1y := py1, a0 := w0, a1 := w1, ia := pb0, xa := pu0, ya := pv0, ib := pb1, xb := pu1, yb := pv1, ic := pb2, xc := pu2, yc := pv2, gx := v40, gy := v41, gz := v42, s0 := some ⟨g0, 0, none⟩, l0 := 32, c0 := e0, s1 := some ⟨g1, 0, none⟩, l1 := 32, c1 := e1 } : TxD) M0 M1 s19) := Lib.hid ⟨s0, s1, s2, s3, s4, s5, s6, s7, s8, s9, s10, s11, s12, s13, s14, s15, s16, s17, s18, s19, hs0.out, hs1.out, hs2.out, hs3.out, hs4.out, hs5.out, hs6.out, hs7.out, hs8.out, hs9.out, hs10.out, hs11.out, hs12.out, hs13.out, hs14.out, hs15.out, hs16.out, hs17.out, hs18.out, hs19.out, rfl, hM0.out, hM1.out, hvv0.out, hvv1.out, hvv2.out, hvv3.out, hvv4.out, hvv5.out, hvv6.out, hvv7.out, hvy7.out, hvy8.out, hvy9.out, hvy10.out, hpx0.out, hpy0.out, hpx1.out, hpy1.out, hvw0.out, hvw1.out, hvpb0.out, hvpu0.out, hvpv0.out, hvpb1.out, hvpu1.out, hvpv1.out, hvpb2.out, hvpu2.out, hvpv2.out, hvv40.out, hvv41.out, hvv42.out⟩
          have FIN : Hid (∀ e w', HR w w' [(g0, z0, 5), (g1, z1, 5)] → e = .returned (rdRes ({ root := v0, inn := v1, out := v2, fx := v3, fy := v4, tx := v5, ty := v6, seq := v7, e0 := y7, e1 := y8, m0 := y9, m1 := y10, n0x := px0, n0y := py0, n1x := px1, n1y := py1, a0 := w0, a1 := w1, ia := pb0, xa := pu0, ya := pv0, ib := pb1, xb := pu1, yb := pv1, ic := pb2, xc := pu2, yc := pv2, gx := v40, gy := v41, gz := v42, s0 := some ⟨g0, 0, none⟩, l0 := 32, c0 := e0, s1 := some ⟨g1, 0, none⟩, l1 := 32, c1 := e1 } : TxD) s19) → TxReadI L w e w') := Lib.hid (fun e w' h he => ⟨({ root := v0, inn := v1, out := v2, fx := v3, fy := v4, tx := v5, ty := v6, seq := v7, e0 := y7, e1 := y8, m0 := y9, m1 := y10, n0x := px0, n0y := py0, n1x := px1, n1y := py1, a0 := w0, a1 := w1, ia := pb0, xa := pu0, ya := pv0, ib := pb1, xb := pu1, yb := pv1, ic := pb2, xc := pu2, yc := pv2, gx := v40, gy := v41, gz := v42, s0 := some ⟨g0, 0, none⟩, l0 := 32, c0 := e0, s1 := some ⟨g1, 0, none⟩, l1 := 32, c1 := e1 } : TxD), M0, M1, s19, b5, br, g0, e0, g1, e1, z0, z1, RC.out, TO.out, h.2, ⟨rfl, rfl, rfl⟩, ⟨rfl, rfl, rfl⟩, OF0.out, OF1.out, by have := hbs.out; omega, hbs.out.2.1, h.row (b := g0) (by simp), h.row (b := g1) (by simp), he⟩)
          clear RC
          obtain ⟨ra, rc, hr1, hr2, hr3⟩ := Q44.out
          have R1 := Lib.hid hr1
          clear hr1 hr2 hr3
          have kr0 := R1.out.cell 0 rfl
          have kr1 := R1.out.cell 1 rfl
          have und := Try.underlying37
          obtain ⟨bd, hbd⟩ : ∃ z, s19.1 = z := ⟨_, rfl⟩
          rw [hbd] at kr1
          cases bd with
          | true =>
            have hbD := Lib.hid hbd
            clear hbd
            go_upto_region 22 with fail
            have h2 := G44.out.row (b := b2) (cs := #[.int .u64 0, .int .u64 0, .int .u64 0, .int .u64 0, .int .u64 0, .int .u64 0, .int .u64 0, .int .u64 0, .int .u64 0, .int .u64 0, .int .u64 0, .int .u64 0, .int .u64 0, .int .u64 0, .slice none 0 0, .int .u64 0, .int .u64 0, .slice none 0 0, .int .u64 0, .int .u64 0, .bool false, .int .u64 0, .int .u64 0, .bool false, .int .u64 0, .int .u64 0, .bool false, .int .u64 0, .int .u64 0, .int .u64 0, .int .u64 0, .int .u64 0]) (t := 37) (by simp)
            have hth := h2.there
            go_wp2_with (refine wpList_store_mid rfl _ _ _ rfl b2 0 #[.int .u64 0, .int .u64 0, .int .u64 0, .int .u64 0, .int .u64 0, .int .u64 0, .int .u64 0, .int .u64 0, .int .u64 0, .int .u64 0, .int .u64 0, .int .u64 0, .int .u64 0, .int .u64 0, .slice none 0 0, .int .u64 0, .int .u64 0, .slice none 0 0, .int .u64 0, .int .u64 0, .bool false, .int .u64 0, .int .u64 0, .bool false, .int .u64 0, .int .u64 0, .bool false, .int .u64 0, .int .u64 0, .int .u64 0, .int .u64 0, .int .u64 0] rfl rfl hth sizTX oneZ ?_)
            have hX : rdRes ({ root := v0, inn := v1, out := v2, fx := v3, fy := v4, tx := v5, ty := v6, seq := v7, e0 := y7, e1 := y8, m0 := y9, m1 := y10, n0x := px0, n0y := py0, n1x := px1, n1y := py1, a0 := w0, a1 := w1, ia := pb0, xa := pu0, ya := pv0, ib := pb1, xb := pu1, yb := pv1, ic := pb2, xc := pu2, yc := pv2, gx := v40, gy := v41, gz := v42, s0 := some ⟨g0, 0, none⟩, l0 := 32, c0 := e0, s1 := some ⟨g1, 0, none⟩, l1 := 32, c1 := e1 } : TxD) s19 = .tuple #[.agg #[.int .u64 0, .int .u64 0, .int .u64 0, .int .u64 0, .int .u64 0, .int .u64 0, .int .u64 0, .int .u64 0, .int .u64 0, .int .u64 0, .int .u64 0, .int .u64 0, .int .u64 0, .int .u64 0, .slice none 0 0, .int .u64 0, .int .u64 0, .slice none 0 0, .int .u64 0, .int .u64 0, .bool false, .int .u64 0, .int .u64 0, .bool false, .int .u64 0, .int .u64 0, .bool false, .int .u64 0, .int .u64 0, .int .u64 0, .int .u64 0, .int .u64 0], errV 3] := by rw [rdRes, if_pos (Or.inl hbD.out)]
            have RZ := h2.store #[.int .u64 0, .int .u64 0, .int .u64 0, .int .u64 0, .int .u64 0, .int .u64 0, .int .u64 0, .int .u64 0, .int .u64 0, .int .u64 0, .int .u64 0, .int .u64 0, .int .u64 0, .int .u64 0, .slice none 0 0, .int .u64 0, .int .u64 0, .slice none 0 0, .int .u64 0, .int .u64 0, .bool false, .int .u64 0, .int .u64 0, .bool false, .int .u64 0, .int .u64 0, .bool false, .int .u64 0, .int .u64 0, .int .u64 0, .int .u64 0, .int .u64 0] rfl
            have HZ := HR.otherMany (D := b2) (rs := [(g0, z0, 5), (g1, z1, 5)]) (by have := hbs.out; have h30 := OF0.out.n5; have h31 := OF1.out.n5; simp; omega) (by have := hbs.out; omega) (#[.int .u64 0, .int .u64 0, .int .u64 0, .int .u64 0, .int .u64 0, .int .u64 0, .int .u64 0, .int .u64 0, .int .u64 0, .int .u64 0, .int .u64 0, .int .u64 0, .int .u64 0, .int .u64 0, .slice none 0 0, .int .u64 0, .int .u64 0, .slice none 0 0, .int .u64 0, .int .u64 0, .bool false, .int .u64 0, .int .u64 0, .bool false, .int .u64 0, .int .u64 0, .bool false, .int .u64 0, .int .u64 0, .int .u64 0, .int .u64 0, .int .u64 0] : Array Value).toList 0 _ (HR.sub G44.out (by simp))
            refine bodyPost_ret (v := _) (results_two_row rfl _ rfl RZ und rfl sizTX) rfl (FIN.out _ _ HZ ?_)
            rw [hX]
            rfl
          | false =>
            have hbD := Lib.hid hbd
            clear hbd
            have hr5 := G44.out.row (b := b5) (cs := #[.int .u64 v0, .int .u64 v1, .int .u64 v2, .int .u64 v3, .int .u64 v4, .int .u64 v5, .int .u64 v6, .int .u64 v7, .int .u64 y7, .int .u64 y8, .int .u64 y9, .int .u64 y10, .int .u64 px0, .int .u64 py0, .slice (some ⟨g0, 0, none⟩) 32 e0, .int .u64 px1, .int .u64 py1, .slice (some ⟨g1, 0, none⟩) 32 e1, .int .u64 w0, .int .u64 w1, .bool pb0, .int .u64 pu0, .int .u64 pv0, .bool pb1, .int .u64 pu1, .int .u64 pv1, .bool pb2, .int .u64 pu2, .int .u64 pv2, .int .u64 v40, .int .u64 v41, .int .u64 v42]) (t := 37) (by simp)
            go_wp2_with (refine wpList_load_on rfl _ _ rfl b5 rfl 37 #[.int .u64 v0, .int .u64 v1, .int .u64 v2, .int .u64 v3, .int .u64 v4, .int .u64 v5, .int .u64 v6, .int .u64 v7, .int .u64 y7, .int .u64 y8, .int .u64 y9, .int .u64 y10, .int .u64 px0, .int .u64 py0, .slice (some ⟨g0, 0, none⟩) 32 e0, .int .u64 px1, .int .u64 py1, .slice (some ⟨g1, 0, none⟩) 32 e1, .int .u64 w0, .int .u64 w1, .bool pb0, .int .u64 pu0, .int .u64 pv0, .bool pb1, .int .u64 pu1, .int .u64 pv1, .bool pb2, .int .u64 pu2, .int .u64 pv2, .int .u64 v40, .int .u64 v41, .int .u64 v42] (0, 0) _ hr5 und rfl sizTX ?_)
            refine (tCheck ({ root := v0, inn := v1, out := v2, fx := v3, fy := v4, tx := v5, ty := v6, seq := v7, e0 := y7, e1 := y8, m0 := y9, m1 := y10, n0x := px0, n0y := py0, n1x := px1, n1y := py1, a0 := w0, a1 := w1, ia := pb0, xa := pu0, ya := pv0, ib := pb1, xb := pu1, yb := pv1, ic := pb2, xc := pu2, yc := pv2, gx := v40, gy := v41, gz := v42, s0 := some ⟨g0, 0, none⟩, l0 := 32, c0 := e0, s1 := some ⟨g1, 0, none⟩, l1 := 32, c1 := e1 } : TxD) TO.out _).mono ?_
            rintro e qc ⟨rfl, hbw⟩
            obtain ⟨mb, hmb⟩ : ∃ z, mayB ({ root := v0, inn := v1, out := v2, fx := v3, fy := v4, tx := v5, ty := v6, seq := v7, e0 := y7, e1 := y8, m0 := y9, m1 := y10, n0x := px0, n0y := py0, n1x := px1, n1y := py1, a0 := w0, a1 := w1, ia := pb0, xa := pu0, ya := pv0, ib := pb1, xb := pu1, yb := pv1, ic := pb2, xc := pu2, yc := pv2, gx := v40, gy := v41, gz := v42, s0 := some ⟨g0, 0, none⟩, l0 := 32, c0 := e0, s1 := some ⟨g1, 0, none⟩, l1 := 32, c1 := e1 } : TxD) = z := ⟨_, rfl⟩
            rw [hmb]
            have HC := Lib.hid (HR.next G44.out hbw)
            have RC1 := Lib.hid (R1.out.below hbw R1.out.lt)
            clear hr5 hbw kr0 kr1
            have kr0 := RC1.out.cell 0 rfl
            replace hmb := Lib.hid hmb
            cases mb with
            | false =>
              go_upto_region 22 with fail
              have h2 := HC.out.row (b := b2) (cs := #[.int .u64 0, .int .u64 0, .int .u64 0, .int .u64 0, .int .u64 0, .int .u64 0, .int .u64 0, .int .u64 0, .int .u64 0, .int .u64 0, .int .u64 0, .int .u64 0, .int .u64 0, .int .u64 0, .slice none 0 0, .int .u64 0, .int .u64 0, .slice none 0 0, .int .u64 0, .int .u64 0, .bool false, .int .u64 0, .int .u64 0, .bool false, .int .u64 0, .int .u64 0, .bool false, .int .u64 0, .int .u64 0, .int .u64 0, .int .u64 0, .int .u64 0]) (t := 37) (by simp)
              have hth := h2.there
              go_wp2_with (refine wpList_store_mid rfl _ _ _ rfl b2 0 #[.int .u64 0, .int .u64 0, .int .u64 0, .int .u64 0, .int .u64 0, .int .u64 0, .int .u64 0, .int .u64 0, .int .u64 0, .int .u64 0, .int .u64 0, .int .u64 0, .int .u64 0, .int .u64 0, .slice none 0 0, .int .u64 0, .int .u64 0, .slice none 0 0, .int .u64 0, .int .u64 0, .bool false, .int .u64 0, .int .u64 0, .bool false, .int .u64 0, .int .u64 0, .bool false, .int .u64 0, .int .u64 0, .int .u64 0, .int .u64 0, .int .u64 0] rfl rfl hth sizTX oneZ ?_)
              have hX : rdRes ({ root := v0, inn := v1, out := v2, fx := v3, fy := v4, tx := v5, ty := v6, seq := v7, e0 := y7, e1 := y8, m0 := y9, m1 := y10, n0x := px0, n0y := py0, n1x := px1, n1y := py1, a0 := w0, a1 := w1, ia := pb0, xa := pu0, ya := pv0, ib := pb1, xb := pu1, yb := pv1, ic := pb2, xc := pu2, yc := pv2, gx := v40, gy := v41, gz := v42, s0 := some ⟨g0, 0, none⟩, l0 := 32, c0 := e0, s1 := some ⟨g1, 0, none⟩, l1 := 32, c1 := e1 } : TxD) s19 = .tuple #[.agg #[.int .u64 0, .int .u64 0, .int .u64 0, .int .u64 0, .int .u64 0, .int .u64 0, .int .u64 0, .int .u64 0, .int .u64 0, .int .u64 0, .int .u64 0, .int .u64 0, .int .u64 0, .int .u64 0, .slice none 0 0, .int .u64 0, .int .u64 0, .slice none 0 0, .int .u64 0, .int .u64 0, .bool false, .int .u64 0, .int .u64 0, .bool false, .int .u64 0, .int .u64 0, .bool false, .int .u64 0, .int .u64 0, .int .u64 0, .int .u64 0, .int .u64 0], errV 3] := by rw [rdRes, if_pos (Or.inr hmb.out)]
              have RZ := h2.store #[.int .u64 0, .int .u64 0, .int .u64 0, .int .u64 0, .int .u64 0, .int .u64 0, .int .u64 0, .int .u64 0, .int .u64 0, .int .u64 0, .int .u64 0, .int .u64 0, .int .u64 0, .int .u64 0, .slice none 0 0, .int .u64 0, .int .u64 0, .slice none 0 0, .int .u64 0, .int .u64 0, .bool false, .int .u64 0, .int .u64 0, .bool false, .int .u64 0, .int .u64 0, .bool false, .int .u64 0, .int .u64 0, .int .u64 0, .int .u64 0, .int .u64 0] rfl
              have HZ := HR.otherMany (D := b2) (rs := [(g0, z0, 5), (g1, z1, 5)]) (by have := hbs.out; have h30 := OF0.out.n5; have h31 := OF1.out.n5; simp; omega) (by have := hbs.out; omega) (#[.int .u64 0, .int .u64 0, .int .u64 0, .int .u64 0, .int .u64 0, .int .u64 0, .int .u64 0, .int .u64 0, .int .u64 0, .int .u64 0, .int .u64 0, .int .u64 0, .int .u64 0, .int .u64 0, .slice none 0 0, .int .u64 0, .int .u64 0, .slice none 0 0, .int .u64 0, .int .u64 0, .bool false, .int .u64 0, .int .u64 0, .bool false, .int .u64 0, .int .u64 0, .bool false, .int .u64 0, .int .u64 0, .int .u64 0, .int .u64 0, .int .u64 0] : Array Value).toList 0 _ (HR.sub HC.out (by simp))
              refine bodyPost_ret (v := _) (results_two_row rfl _ rfl RZ und rfl sizTX) rfl (FIN.out _ _ HZ ?_)
              rw [hX]
              rfl
            | true =>
              by_cases hlen : 0 < s19.2.length
              · have hl1 : (0 : Int) < (s19.2.length : Int) := by omega
                go_upto_region 24 with fail
                have h2 := HC.out.row (b := b2) (cs := #[.int .u64 0, .int .u64 0, .int .u64 0, .int .u64 0, .int .u64 0, .int .u64 0, .int .u64 0, .int .u64 0, .int .u64 0, .int .u64 0, .int .u64 0, .int .u64 0, .int .u64 0, .int .u64 0, .slice none 0 0, .int .u64 0, .int .u64 0, .slice none 0 0, .int .u64 0, .int .u64 0, .bool false, .int .u64 0, .int .u64 0, .bool false, .int .u64 0, .int .u64 0, .bool false, .int .u64 0, .int .u64 0, .int .u64 0, .int .u64 0, .int .u64 0]) (t := 37) (by simp)
                have hth := h2.there
                go_wp2_with (refine wpList_store_mid rfl _ _ _ rfl b2 0 #[.int .u64 0, .int .u64 0, .int .u64 0, .int .u64 0, .int .u64 0, .int .u64 0, .int .u64 0, .int .u64 0, .int .u64 0, .int .u64 0, .int .u64 0, .int .u64 0, .int .u64 0, .int .u64 0, .slice none 0 0, .int .u64 0, .int .u64 0, .slice none 0 0, .int .u64 0, .int .u64 0, .bool false, .int .u64 0, .int .u64 0, .bool false, .int .u64 0, .int .u64 0, .bool false, .int .u64 0, .int .u64 0, .int .u64 0, .int .u64 0, .int .u64 0] rfl rfl hth sizTX oneZ ?_)
                have hX : rdRes ({ root := v0, inn := v1, out := v2, fx := v3, fy := v4, tx := v5, ty := v6, seq := v7, e0 := y7, e1 := y8, m0 := y9, m1 := y10, n0x := px0, n0y := py0, n1x := px1, n1y := py1, a0 := w0, a1 := w1, ia := pb0, xa := pu0, ya := pv0, ib := pb1, xb := pu1, yb := pv1, ic := pb2, xc := pu2, yc := pv2, gx := v40, gy := v41, gz := v42, s0 := some ⟨g0, 0, none⟩, l0 := 32, c0 := e0, s1 := some ⟨g1, 0, none⟩, l1 := 32, c1 := e1 } : TxD) s19 = .tuple #[.agg #[.int .u64 0, .int .u64 0, .int .u64 0, .int .u64 0, .int .u64 0, .int .u64 0, .int .u64 0, .int .u64 0, .int .u64 0, .int .u64 0, .int .u64 0, .int .u64 0, .int .u64 0, .int .u64 0, .slice none 0 0, .int .u64 0, .int .u64 0, .slice none 0 0, .int .u64 0, .int .u64 0, .bool false, .int .u64 0, .int .u64 0, .bool false, .int .u64 0, .int .u64 0, .bool false, .int .u64 0, .int .u64 0, .int .u64 0, .int .u64 0, .int .u64 0], errV 4] := by rw [rdRes, if_neg (by rw [hbD.out, hmb.out]; simp), if_pos hlen]
                have RZ := h2.store #[.int .u64 0, .int .u64 0, .int .u64 0, .int .u64 0, .int .u64 0, .int .u64 0, .int .u64 0, .int .u64 0, .int .u64 0, .int .u64 0, .int .u64 0, .int .u64 0, .int .u64 0, .int .u64 0, .slice none 0 0, .int .u64 0, .int .u64 0, .slice none 0 0, .int .u64 0, .int .u64 0, .bool false, .int .u64 0, .int .u64 0, .bool false, .int .u64 0, .int .u64 0, .bool false, .int .u64 0, .int .u64 0, .int .u64 0, .int .u64 0, .int .u64 0] rfl
                have HZ := HR.otherMany (D := b2) (rs := [(g0, z0, 5), (g1, z1, 5)]) (by have := hbs.out; have h30 := OF0.out.n5; have h31 := OF1.out.n5; simp; omega) (by have := hbs.out; omega) (#[.int .u64 0, .int .u64 0, .int .u64 0, .int .u64 0, .int .u64 0, .int .u64 0, .int .u64 0, .int .u64 0, .int .u64 0, .int .u64 0, .int .u64 0, .int .u64 0, .int .u64 0, .int .u64 0, .slice none 0 0, .int .u64 0, .int .u64 0, .slice none 0 0, .int .u64 0, .int .u64 0, .bool false, .int .u64 0, .int .u64 0, .bool false, .int .u64 0, .int .u64 0, .bool false, .int .u64 0, .int .u64 0, .int .u64 0, .int .u64 0, .int .u64 0] : Array Value).toList 0 _ (HR.sub HC.out (by simp))
                refine bodyPost_ret (v := _) (results_two_row rfl _ rfl RZ und rfl sizTX) rfl (FIN.out _ _ HZ ?_)
                rw [hX]
                rfl
              · have hl1 : ¬ (0 : Int) < (s19.2.length : Int) := by omega
                go_upto_region 25 with fail
                have h2 := HC.out.row (b := b2) (cs := #[.int .u64 0, .int .u64 0, .int .u64 0, .int .u64 0, .int .u64 0, .int .u64 0, .int .u64 0, .int .u64 0, .int .u64 0, .int .u64 0, .int .u64 0, .int .u64 0, .int .u64 0, .int .u64 0, .slice none 0 0, .int .u64 0, .int .u64 0, .slice none 0 0, .int .u64 0, .int .u64 0, .bool false, .int .u64 0, .int .u64 0, .bool false, .int .u64 0, .int .u64 0, .bool false, .int .u64 0, .int .u64 0, .int .u64 0, .int .u64 0, .int .u64 0]) (t := 37) (by simp)
                have hth := h2.there
                have h1c : (#[.int .u64 v0, .int .u64 v1, .int .u64 v2, .int .u64 v3, .int .u64 v4, .int .u64 v5, .int .u64 v6, .int .u64 v7, .int .u64 y7, .int .u64 y8, .int .u64 y9, .int .u64 y10, .int .u64 px0, .int .u64 py0, .slice (some ⟨g0, 0, none⟩) 32 e0, .int .u64 px1, .int .u64 py1, .slice (some ⟨g1, 0, none⟩) 32 e1, .int .u64 w0, .int .u64 w1, .bool pb0, .int .u64 pu0, .int .u64 pv0, .bool pb1, .int .u64 pu1, .int .u64 pv1, .bool pb2, .int .u64 pu2, .int .u64 pv2, .int .u64 v40, .int .u64 v41, .int .u64 v42] : Array Value).all (·.oneCell') = true := by simp [Value.oneCell']
                have hr5 := HC.out.row (b := b5) (cs := #[.int .u64 v0, .int .u64 v1, .int .u64 v2, .int .u64 v3, .int .u64 v4, .int .u64 v5, .int .u64 v6, .int .u64 v7, .int .u64 y7, .int .u64 y8, .int .u64 y9, .int .u64 y10, .int .u64 px0, .int .u64 py0, .slice (some ⟨g0, 0, none⟩) 32 e0, .int .u64 px1, .int .u64 py1, .slice (some ⟨g1, 0, none⟩) 32 e1, .int .u64 w0, .int .u64 w1, .bool pb0, .int .u64 pu0, .int .u64 pv0, .bool pb1, .int .u64 pu1, .int .u64 pv1, .bool pb2, .int .u64 pu2, .int .u64 pv2, .int .u64 v40, .int .u64 v41, .int .u64 v42]) (t := 37) (by simp)
                go_wp2_with (first | (refine wpList_load_row rfl _ _ rfl b5 rfl 37 #[.int .u64 v0, .int .u64 v1, .int .u64 v2, .int .u64 v3, .int .u64 v4, .int .u64 v5, .int .u64 v6, .int .u64 v7, .int .u64 y7, .int .u64 y8, .int .u64 y9, .int .u64 y10, .int .u64 px0, .int .u64 py0, .slice (some ⟨g0, 0, none⟩) 32 e0, .int .u64 px1, .int .u64 py1, .slice (some ⟨g1, 0, none⟩) 32 e1, .int .u64 w0, .int .u64 w1, .bool pb0, .int .u64 pu0, .int .u64 pv0, .bool pb1, .int .u64 pu1, .int .u64 pv1, .bool pb2, .int .u64 pu2, .int .u64 pv2, .int .u64 v40, .int .u64 v41, .int .u64 v42] (0, 0) _ hr5 und rfl sizTX ?_) | (refine wpList_store_mid rfl _ _ _ rfl b2 0 #[.int .u64 v0, .int .u64 v1, .int .u64 v2, .int .u64 v3, .int .u64 v4, .int .u64 v5, .int .u64 v6, .int .u64 v7, .int .u64 y7, .int .u64 y8, .int .u64 y9, .int .u64 y10, .int .u64 px0, .int .u64 py0, .slice (some ⟨g0, 0, none⟩) 32 e0, .int .u64 px1, .int .u64 py1, .slice (some ⟨g1, 0, none⟩) 32 e1, .int .u64 w0, .int .u64 w1, .bool pb0, .int .u64 pu0, .int .u64 pv0, .bool pb1, .int .u64 pu1, .int .u64 pv1, .bool pb2, .int .u64 pu2, .int .u64 pv2, .int .u64 v40, .int .u64 v41, .int .u64 v42] rfl rfl hth sizTX h1c ?_))
                have hX : rdRes ({ root := v0, inn := v1, out := v2, fx := v3, fy := v4, tx := v5, ty := v6, seq := v7, e0 := y7, e1 := y8, m0 := y9, m1 := y10, n0x := px0, n0y := py0, n1x := px1, n1y := py1, a0 := w0, a1 := w1, ia := pb0, xa := pu0, ya := pv0, ib := pb1, xb := pu1, yb := pv1, ic := pb2, xc := pu2, yc := pv2, gx := v40, gy := v41, gz := v42, s0 := some ⟨g0, 0, none⟩, l0 := 32, c0 := e0, s1 := some ⟨g1, 0, none⟩, l1 := 32, c1 := e1 } : TxD) s19 = .tuple #[.agg #[.int .u64 v0, .int .u64 v1, .int .u64 v2, .int .u64 v3, .int .u64 v4, .int .u64 v5, .int .u64 v6, .int .u64 v7, .int .u64 y7, .int .u64 y8, .int .u64 y9, .int .u64 y10, .int .u64 px0, .int .u64 py0, .slice (some ⟨g0, 0, none⟩) 32 e0, .int .u64 px1, .int .u64 py1, .slice (some ⟨g1, 0, none⟩) 32 e1, .int .u64 w0, .int .u64 w1, .bool pb0, .int .u64 pu0, .int .u64 pv0, .bool pb1, .int .u64 pu1, .int .u64 pv1, .bool pb2, .int .u64 pu2, .int .u64 pv2, .int .u64 v40, .int .u64 v41, .int .u64 v42], .nilIface] := by rw [rdRes, if_neg (by rw [hbD.out, hmb.out]; simp), if_neg hlen]
                have RZ := h2.store #[.int .u64 v0, .int .u64 v1, .int .u64 v2, .int .u64 v3, .int .u64 v4, .int .u64 v5, .int .u64 v6, .int .u64 v7, .int .u64 y7, .int .u64 y8, .int .u64 y9, .int .u64 y10, .int .u64 px0, .int .u64 py0, .slice (some ⟨g0, 0, none⟩) 32 e0, .int .u64 px1, .int .u64 py1, .slice (some ⟨g1, 0, none⟩) 32 e1, .int .u64 w0, .int .u64 w1, .bool pb0, .int .u64 pu0, .int .u64 pv0, .bool pb1, .int .u64 pu1, .int .u64 pv1, .bool pb2, .int .u64 pu2, .int .u64 pv2, .int .u64 v40, .int .u64 v41, .int .u64 v42] rfl
                have HZ := HR.otherMany (D := b2) (rs := [(g0, z0, 5), (g1, z1, 5)]) (by have := hbs.out; have h30 := OF0.out.n5; have h31 := OF1.out.n5; simp; omega) (by have := hbs.out; omega) (#[.int .u64 v0, .int .u64 v1, .int .u64 v2, .int .u64 v3, .int .u64 v4, .int .u64 v5, .int .u64 v6, .int .u64 v7, .int .u64 y7, .int .u64 y8, .int .u64 y9, .int .u64 y10, .int .u64 px0, .int .u64 py0, .slice (some ⟨g0, 0, none⟩) 32 e0, .int .u64 px1, .int .u64 py1, .slice (some ⟨g1, 0, none⟩) 32 e1, .int .u64 w0, .int .u64 w1, .bool pb0, .int .u64 pu0, .int .u64 pv0, .bool pb1, .int .u64 pu1, .int .u64 pv1, .bool pb2, .int .u64 pu2, .int .u64 pv2, .int .u64 v40, .int .u64 v41, .int .u64 v42] : Array Value).toList 0 _ (HR.sub HC.out (by simp))
                refine bodyPost_ret (v := _) (results_two_row rfl _ rfl RZ und rfl sizTX) rfl (FIN.out _ _ HZ ?_)
                rw [hX]
                rfl

end Go.Proofs.Ytkfimfjjmdjbdaa
