import Derived.Test.YtkfimfjjmdjbdaaGreatDoorUr
import Derived.Test.YtkfimfjjmdjbdaaGreatDoorUo
import Derived.Lib.IfaceEq
import Derived.Test.YtkfimfjjmdjbdaaGreatDoorRows
import Derived.Test.YtkfimfjjmdjbdaaGreatDoorUe
import Derived.ProofKit
import Derived.LaidMore
import Derived.OpenShut
import Derived.Stop.Joined
import Derived.Deep.CutBlock
import Derived.Deep.DeepCutAuto
import Derived.Test.YtkfimfjjmdjbdaaGreatDoorUf
import Derived.BigQuiet
set_option linter.unusedVariables false
set_option linter.unusedSimpArgs false
set_option linter.unusedSectionVars false
/- What the statements of layer 19 share: the cells of a transaction, as one name. -/
namespace Go.Proofs.YtkfimfjjmdjbdaaGreatDoor
open Go.RowKit
set_option linter.unusedVariables false
set_option linter.unusedSimpArgs false

theorem oneTx (t : TxD) : (txC t).all (·.oneCell') = true := by simp [Value.oneCell']
theorem HR.fill {w w1 : World} {rs : List (Nat × Array Value × TypeId)} (h : HR w w1 rs) (zs cs : Array Value) (t : TypeId) (hs : cs.size = zs.size) : HR w ((w1.alloc (.cells zs t)).setCells w1.heap.size 0 cs.toList) ((w1.heap.size, cs, t) :: rs) := by
 have hn := h.new zs t
 exact HR.add (HR.otherMany (fun r hr => Nat.ne_of_lt (HR.lt h (b := r.1) (cs := r.2.1) (t := r.2.2) hr)) h.2.size _ 0 _ hn.tail) ((hn.row (List.mem_cons_self ..)).store cs hs)
theorem Row.newThere (w : World) (cs : Array Value) (t : TypeId) : (w.alloc (.cells cs t)).there w.heap.size 0 cs.size := Row.there (Row.new w cs t)
theorem eq19 (W : World) (a b : Int) : (binOp .eql 41 (.iface 50 (.int .i64 a)) (.iface 50 (.int .i64 b))).run Tryz.prog W = .ok (.bool (a == b)) W :=
 Lib.run_eql_iface_int W a b Tryz.underlying41 (by kernel_rfl) Tryz.underlying50
set_option maxRecDepth 100000 in
theorem eqN19 (W : World) (a : Int) : (binOp .eql 41 (.iface 50 (.int .i64 a)) .nilIface).run Tryz.prog W = .ok (.bool false) W := by
 first | rfl | simp [binOp]
set_option maxRecDepth 100000 in
theorem nilN19 (W : World) : (binOp .eql 41 .nilIface .nilIface).run Tryz.prog W = .ok (.bool true) W := by
 first | rfl | simp [binOp]
set_option maxRecDepth 100000 in
theorem nilE19 (W : World) (a : Int) : (binOp .eql 41 .nilIface (.iface 50 (.int .i64 a))).run Tryz.prog W = .ok (.bool false) W := by
 first | rfl | simp [binOp]
theorem SlI.arg9 {base : Nat} {w : World} {ao : Option Addr} {cap : Nat} {E : List Nat} (h : SlI base w ao cap E) : (ao = none → E.length = 0 ∧ cap = 0) ∧ (0 < E.length → ∃ b o, ao = some ⟨b, o, none⟩ ∧ BL w b o E) :=
 ⟨h.no, fun h0 => by
  obtain ⟨b, o, h1, _, h3⟩ := h.bl h0
  exact ⟨b, o, h1, h3⟩⟩
theorem own_any9 {w : World} {base : Nat} {v : Value} {L : List Nat} (h : OwnB w base v L) : ∃ a c, v = .slice a L.length c := by
 rcases h.2 with ⟨rfl, h0⟩ | ⟨g, cap, cur, h1, _⟩
 ·exact ⟨none, 0, by rw [show L.length = 0 by omega]⟩
 ·exact ⟨_, _, h1⟩
theorem OwnB.sl9 {w : World} {base : Nat} {ao : Option Addr} {n cap : Nat} {L : List Nat} (h : OwnB w base (.slice ao n cap) L) : L.length = n ∧ SlI w.heap.size w ao cap L := by
 by_cases hv : Value.slice ao n cap = .slice none 0 0
 ·simp only [Value.slice.injEq] at hv
  obtain ⟨rfl, rfl, rfl⟩ := hv
  have h0 : L.length = 0 := by
   rcases h.2 with ⟨_, h0⟩ | ⟨g', cap', cur, h1, _⟩
   ·omega
   ·cases h1
  exact ⟨h0, by omega, by omega, fun _ => ⟨h0, rfl⟩, fun h1 => by omega⟩
 ·obtain ⟨g, cap', he⟩ := own_shape h hv
  simp only [Value.slice.injEq] at he
  obtain ⟨rfl, rfl, rfl⟩ := he
  have hc := own_cap h
  exact ⟨rfl, hc.1, hc.2, (fun h => by cases h), fun _ => ⟨g, 0, rfl, own_lt h, h.bl⟩⟩
theorem SlI.up9 {base base' : Nat} {w : World} {ao : Option Addr} {cap : Nat} {L : List Nat} (h : SlI base w ao cap L) (hb : base ≤ base') : SlI base' w ao cap L :=
 ⟨h.le, h.cap, h.no, fun h0 => by
  obtain ⟨b, o, h1, h2, h3⟩ := h.bl h0
  exact ⟨b, o, h1, by omega, h3⟩⟩
theorem SlI.next9 {w W : World} {ao : Option Addr} {cap : Nat} {L : List Nat} (h : SlI w.heap.size w ao cap L) (hb : Below w.heap.size w W) : SlI W.heap.size W ao cap L := (h.below hb).up9 hb.size
theorem SlI.conv9 {base : Nat} {w : World} {ao : Option Addr} {cap : Nat} {L : List Nat} (h : SlI base w ao cap L) : (convert 26 9 (.slice ao L.length cap)).run Tryz.prog w = .ok (.string (strB L)) w :=
 convAny rfl h.arg9.2
theorem own_conv9 {w : World} {base n c : Nat} {a : Option Addr} {L : List Nat} (h : OwnB w base (.slice a n c) L) : (convert 26 9 (.slice a n c)).run Tryz.prog w = .ok (.string (strB L)) w := by
 obtain ⟨h1, h2⟩ := OwnB.sl9 h
 subst h1
 exact convAny rfl h2.arg9.2
theorem slOf {w : World} {ao : Option Addr} {len cap : Nat} {L : List Nat} (H : B8 len L) (hl : len ≤ cap) (hc : cap ≤ 9223372036854775807) (hn : ao = none → len = 0 ∧ cap = 0) (hb : 0 < len → ∃ b o, ao = some ⟨b, o, none⟩ ∧ BL w b o L) : SlI w.heap.size w ao cap L :=
 ⟨by rw [H.len]; exact hl, hc, (fun h => by rw [H.len]; exact hn h), fun h => by
  rw [H.len] at h
  obtain ⟨b, o, h1, h2⟩ := hb h
  exact ⟨b, o, h1, h2.lt (by rw [H.len]; exact h), h2⟩⟩
set_option maxRecDepth 8000 in
/-- Are the bodies short? -/
theorem lLight (t : TxD) (w : World) : Calls Tryz.prog 6 #[txV t] w fun e w' => e = .returned (.bool (decide (t.l0 < 200) && decide (t.l1 < 200))) ∧ Below w.heap.size w w' := by
 go_enter Tryz.func6, Tryz.ntmps6
 go_upto_region 1 with fail
 have H1 := Lib.hid ((HR.refl w).new (txC t) 37)
 generalize w.alloc (.cells (txC t) 37) = w2 at H1 ⊢
 generalize w.heap.size = b1 at H1 ⊢
 have k0 := H1.out.cell (b := b1) (cs := txC t) (t := 37) (by simp) 14 rfl
 have k1 := H1.out.cell (b := b1) (cs := txC t) (t := 37) (by simp) 17 rfl
 by_cases h0 : t.l0 < 200
 ·have i0 : (t.l0 : Int) < 200 := by omega
  by_cases h1 : t.l1 < 200
  ·have i1 : (t.l1 : Int) < 200 := by omega
   have d0 := Lib.hid (decide_eq_true h0)
   have d1 := Lib.hid (decide_eq_true h1)
   clear h0 h1
   go_wp2_with fail
   go_ret
   exact ⟨by rw [d0.out, d1.out]; rfl, H1.out.2⟩
  ·have i1 : ¬ (t.l1 : Int) < 200 := by omega
   have d0 := Lib.hid (decide_eq_true h0)
   have d1 := Lib.hid (decide_eq_false h1)
   clear h0 h1
   go_wp2_with fail
   go_ret
   exact ⟨by rw [d0.out, d1.out]; rfl, H1.out.2⟩
 ·have i0 : ¬ (t.l0 : Int) < 200 := by omega
  have d0 := Lib.hid (decide_eq_false h0)
  clear h0
  go_wp2_with fail
  go_ret
  exact ⟨by rw [d0.out]; rfl, H1.out.2⟩

end Go.Proofs.YtkfimfjjmdjbdaaGreatDoor
/- Walks: the statements of layer 19: their head. -/
namespace Go.Proofs.YtkfimfjjmdjbdaaGreatDoor
open Go.RowKit
set_option linter.unusedVariables false

theorem sizED : (Tryz.prog.info? 24).map (·.size) = some 2 := by kernel_rfl
theorem sizPT : (Tryz.prog.info? 31).map (·.size) = some 3 := by kernel_rfl
theorem sizSG : (Tryz.prog.info? 35).map (·.size) = some 3 := by kernel_rfl
theorem sizSE : (Tryz.prog.info? 28).map (·.size) = some 3 := by kernel_rfl
theorem sizA2 : (Tryz.prog.info? 25).map (·.size) = some 2 := by kernel_rfl
theorem one2 (x y : Int) : (#[.int .u64 x, .int .u64 y] : Array Value).all (·.oneCell') = true := by simp [Value.oneCell']
theorem one3 (b : Bool) (x y : Int) : (#[.bool b, .int .u64 x, .int .u64 y] : Array Value).all (·.oneCell') = true := by simp [Value.oneCell']
theorem one3u (x y z : Int) : (#[.int .u64 x, .int .u64 y, .int .u64 z] : Array Value).all (·.oneCell') = true := by simp [Value.oneCell']
theorem one3s (x y : Int) (a : Option Addr) (n c : Nat) : (#[.int .u64 x, .int .u64 y, .slice a n c] : Array Value).all (·.oneCell') = true := by simp [Value.oneCell']
theorem zero19 (w : World) : Calls Tryz.prog 26 #[] w fun e w' => e = .returned (.agg #[.int .u64 0, .int .u64 1]) ∧ Below w.heap.size w w' := by
  go_enter Tryz.func26, Tryz.ntmps26
  go_wp2_with fail
  refine bodyPost_ret (v := edV 0 1) (by simp [results, Tryz.results26, go_sem]) rfl ⟨rfl, ?_⟩
  repeat (first | exact Below.refl _ _ | assumption | apply bDrewN | apply bDrew | apply bAlloc | refine bSet ?_ (by omega) | refine bThen ?_ (by assumption) (by simp <;> omega))
/-- A transaction without Answers, Proof and Sig. -/
abbrev bareD (t : TxD) : TxD := { t with a0 := 0, a1 := 0, ia := true, xa := 0, ya := 0, ib := true, xb := 0, yb := 0, ic := true, xc := 0, yc := 0, gx := 0, gy := 1, gz := 0 }
set_option maxRecDepth 100000 in
set_option maxHeartbeats 4000000 in
theorem lBare (t : TxD) (w : World) : Calls Tryz.prog 10 #[txV t] w fun e w' => e = .returned (.agg (txC (bareD t))) ∧ Below w.heap.size w w' := by
  go_enter Tryz.func10, Tryz.ntmps10
  go_upto_region 1 with fail
  have E := ((HR.refl w).new (txC t) 37).new zC 37
  simp only [World.size_alloc] at E
  generalize (w.alloc (.cells (txC t) 37)).alloc (.cells zC 37) = w1 at E ⊢
  obtain ⟨b2, hb2⟩ : ∃ z, w.heap.size + 1 = z := ⟨_, rfl⟩
  obtain ⟨b1, hb1⟩ : ∃ z, w.heap.size = z := ⟨_, rfl⟩
  rw [hb2, hb1] at E ⊢
  have hbs : Hid (w.heap.size = b1 ∧ b1 ≠ b2 ∧ w.heap.size ≤ b2 ∧ b1 < w1.heap.size ∧ b2 < w1.heap.size) := Lib.hid ⟨hb1, by omega, by omega, E.lt (b := b1) (cs := txC t) (t := 37) (by simp), E.lt (b := b2) (cs := zC) (t := 37) (by simp)⟩
  have H1 : Hid (HR w w1 [(b2, zC, 37), (b1, txC t, 37)]) := Lib.hid E
  clear E hb1 hb2
  have hth := Row.newThere w1 #[.bool false, .int .u64 0, .int .u64 0] 31
  have und := Tryz.underlying31
  have undT := Tryz.underlying37
  go_upto_region 2 with (refine wpList_store_mid rfl _ _ _ rfl w1.heap.size 0 #[.bool true, .int .u64 0, .int .u64 0] rfl rfl hth sizPT (one3 _ _ _) ?_)
  have H2 := Lib.hid (H1.out.fill #[.bool false, .int .u64 0, .int .u64 0] #[.bool true, .int .u64 0, .int .u64 0] 31 rfl)
  clear hth
  generalize (w1.alloc (.cells #[.bool false, .int .u64 0, .int .u64 0] 31)).setCells w1.heap.size 0 (#[.bool true, .int .u64 0, .int .u64 0] : Array Value).toList = w2 at H2 ⊢
  have hb3l : Hid (b1 ≠ w1.heap.size ∧ b2 ≠ w1.heap.size ∧ w.heap.size ≤ w1.heap.size) := Lib.hid ⟨by have := hbs.out; omega, by have := hbs.out; omega, H1.out.2.size⟩
  generalize w1.heap.size = b3 at H2 hb3l ⊢
  clear H1
  have H2' : Hid (HR w w2 [(b1, txC t, 37), (b3, #[.bool true, .int .u64 0, .int .u64 0], 31), (b2, zC, 37)]) := Lib.hid (HR.sub H2.out (by simp))
  clear H2
  have hth := (H2'.out.row (b := b1) (cs := txC t) (t := 37) (by simp)).thereMid 18 2 (by simp)
  go_upto_region 3 with (refine wpList_store_mid rfl _ _ _ rfl b1 18 #[.int .u64 0, .int .u64 0] rfl rfl hth sizA2 (one2 _ _) ?_)
  have H3 : Hid (HR w (w2.setCells b1 18 (#[.int .u64 0, .int .u64 0] : Array Value).toList) [(b1, txC { t with a0 := 0, a1 := 0 }, 37), (b3, #[.bool true, .int .u64 0, .int .u64 0], 31), (b2, zC, 37)]) := Lib.hid (HR.putMany H2'.out (by have := hbs.out; have := hb3l.out; simp; omega) (by have := hbs.out; omega) _ 18 (by simp) rfl)
  clear hth H2'
  generalize w2.setCells b1 18 (#[.int .u64 0, .int .u64 0] : Array Value).toList = w3 at H3 ⊢
  have hr := H3.out.row (b := b3) (cs := #[.bool true, .int .u64 0, .int .u64 0]) (t := 31) (by simp)
  have hth := (H3.out.row (b := b1) (cs := txC { t with a0 := 0, a1 := 0 }) (t := 37) (by simp)).thereMid 20 9 (by simp)
  go_upto_region 4 with (first | (refine wpList_load_row rfl _ _ rfl b3 rfl 31 #[.bool true, .int .u64 0, .int .u64 0] (0, 0) _ hr und rfl sizPT ?_) | (refine wpList_store_mid rfl _ _ _ rfl b1 20 #[.bool true, .int .u64 0, .int .u64 0, .bool true, .int .u64 0, .int .u64 0, .bool true, .int .u64 0, .int .u64 0] rfl rfl hth sizPR (one9 _ _ _ _ _ _ _ _ _) ?_))
  have H4 : Hid (HR w (w3.setCells b1 20 (#[.bool true, .int .u64 0, .int .u64 0, .bool true, .int .u64 0, .int .u64 0, .bool true, .int .u64 0, .int .u64 0] : Array Value).toList) [(b1, txC { t with a0 := 0, a1 := 0, ia := true, xa := 0, ya := 0, ib := true, xb := 0, yb := 0, ic := true, xc := 0, yc := 0 }, 37), (b3, #[.bool true, .int .u64 0, .int .u64 0], 31), (b2, zC, 37)]) := Lib.hid (HR.putMany H3.out (by have := hbs.out; have := hb3l.out; simp; omega) (by have := hbs.out; omega) _ 20 (by simp) rfl)
  clear hth hr H3
  generalize w3.setCells b1 20 (#[.bool true, .int .u64 0, .int .u64 0, .bool true, .int .u64 0, .int .u64 0, .bool true, .int .u64 0, .int .u64 0] : Array Value).toList = w4 at H4 ⊢
  go_wp2_with fail
  refine (zero19 _).mono ?_
  rintro e w5 ⟨rfl, hb⟩
  have H5 := Lib.hid (H4.out.next hb)
  clear hb H4
  have hth := (H5.out.row (b := b1) (cs := txC { t with a0 := 0, a1 := 0, ia := true, xa := 0, ya := 0, ib := true, xb := 0, yb := 0, ic := true, xc := 0, yc := 0 }) (t := 37) (by simp)).thereMid 29 3 (by simp)
  go_upto_region 5 with (refine wpList_store_mid rfl _ _ _ rfl b1 29 #[.int .u64 0, .int .u64 1, .int .u64 0] rfl rfl hth sizSG (one3u _ _ _) ?_)
  have H6 : Hid (HR w (w5.setCells b1 29 (#[.int .u64 0, .int .u64 1, .int .u64 0] : Array Value).toList) [(b1, txC (bareD t), 37), (b3, #[.bool true, .int .u64 0, .int .u64 0], 31), (b2, zC, 37)]) := Lib.hid (HR.putMany H5.out (by have := hbs.out; have := hb3l.out; simp; omega) (by have := hbs.out; omega) _ 29 (by simp) rfl)
  clear hth H5
  generalize w5.setCells b1 29 (#[.int .u64 0, .int .u64 1, .int .u64 0] : Array Value).toList = w6 at H6 ⊢
  have hr := H6.out.row (b := b1) (cs := txC (bareD t)) (t := 37) (by simp)
  have h2 := H6.out.row (b := b2) (cs := zC) (t := 37) (by simp)
  have hth := h2.there
  go_wp2_with (first | (refine wpList_load_row rfl _ _ rfl b1 rfl 37 (txC (bareD t)) (0, 0) _ hr undT rfl sizTX ?_) | (refine wpList_store_mid rfl _ _ _ rfl b2 0 (txC (bareD t)) rfl rfl hth sizTX (oneTx _) ?_))
  have RZ := h2.store (txC (bareD t)) rfl
  refine bodyPost_ret (v := _) (results_cell_row rfl _ _ _ _ _ _ _ rfl RZ undT rfl sizTX) rfl ⟨rfl, ?_⟩
  exact (HR.putMany (cs := zC) (t := 37) (rs := []) (HR.sub H6.out (by simp)) (by simp) (by have := hbs.out; omega) (txC (bareD t)).toList 0 (by simp) rfl).2

end Go.Proofs.YtkfimfjjmdjbdaaGreatDoor
/- Walks: the statements of layer 19: a transaction of nothing. -/
namespace Go.Proofs.YtkfimfjjmdjbdaaGreatDoor
open Go.RowKit
set_option linter.unusedVariables false

/-- The transaction of nothing: its fields at three steps. -/
abbrev zD : TxD := { root := 0, inn := 0, out := 0, fx := 0, fy := 0, tx := 0, ty := 0, seq := 0, e0 := 0, e1 := 0, m0 := 0, m1 := 0, n0x := 0, n0y := 0, n1x := 0, n1y := 0, a0 := 0, a1 := 0, xa := 0, ya := 0, xb := 0, yb := 0, xc := 0, yc := 0, gx := 0, gy := 0, gz := 0, ia := false, ib := false, ic := false, s0 := none, l0 := 0, c0 := 0, s1 := none, l1 := 0, c1 := 0 }
abbrev p0D : TxD := { zD with fy := 1, ty := 1 }
abbrev p1D (g : Nat) : TxD := { p0D with n0x := 223588670687113535, n0y := 82055451961885530, s0 := some ⟨g, 0, none⟩, l0 := 32, c0 := 32 }
abbrev p2D (g : Nat) : TxD := { p1D g with n1x := 223588670687113535, n1y := 82055451961885530, s1 := some ⟨g, 0, none⟩, l1 := 32, c1 := 32 }
abbrev plD (g : Nat) : TxD := bareD (p2D g)
def z32 : List Nat := List.replicate 32 0
theorem mk32 (W : World) : (Instr.makeSlice 26 (.int .i64 32) (.int .i64 32)).run Tryz.prog W = .ok (.slice (some ⟨W.heap.size, 0, none⟩) 32 32) (W.alloc (.cells (u8s z32) 5)) := make_zeros 32 (by decide) W
set_option maxRecDepth 100000 in
set_option maxHeartbeats 4000000 in
theorem lPlain (w : World) : Calls Tryz.prog 18 #[] w fun e w' => ∃ g, e = .returned (.agg (txC (plD g))) ∧ w.heap.size ≤ g ∧ Row w' g (u8s z32) 5 ∧ Below w.heap.size w w' := by
 go_enter Tryz.func18, Tryz.ntmps18
 have undE := Tryz.underlying24
 have undT := Tryz.underlying37
 go_upto_region 1 with fail
 have H0 := Lib.hid ((HR.refl w).new zC 37)
 generalize w.alloc (.cells zC 37) = w1 at H0 ⊢
 obtain ⟨b0, hb0⟩ : ∃ z, w.heap.size = z := ⟨_, rfl⟩
 rw [hb0] at H0 ⊢
 have hbs : Hid (w.heap.size = b0) := Lib.hid hb0
 clear hb0
 have hth := Row.newThere w1 #[.int .u64 0, .int .u64 0] 24
 go_upto_region 2 with (refine wpList_store_mid rfl _ _ _ rfl w1.heap.size 0 #[.int .u64 223588670687113535, .int .u64 82055451961885530] rfl rfl hth sizED (one2 _ _) ?_)
 have H1 := Lib.hid (H0.out.fill #[.int .u64 0, .int .u64 0] #[.int .u64 223588670687113535, .int .u64 82055451961885530] 24 rfl)
 clear hth
 have hl1 : Hid (b0 < w1.heap.size ∧ w.heap.size ≤ w1.heap.size) := Lib.hid ⟨H0.out.lt (b := b0) (cs := zC) (t := 37) (by simp), H0.out.2.size⟩
 generalize (w1.alloc (.cells #[.int .u64 0, .int .u64 0] 24)).setCells w1.heap.size 0 (#[.int .u64 223588670687113535, .int .u64 82055451961885530] : Array Value).toList = w2 at H1 ⊢
 generalize w1.heap.size = b3 at H1 hl1 ⊢
 clear H0
 have hth := Row.newThere w2 zC 37
 go_upto_region 3 with (refine wpList_store_mid rfl _ _ _ rfl w2.heap.size 0 (txC p0D) rfl rfl hth sizTX (oneTx _) ?_)
 have H2 := Lib.hid (H1.out.fill zC (txC p0D) 37 rfl)
 clear hth
 have hl2 : Hid (b0 < w2.heap.size ∧ b3 < w2.heap.size ∧ w.heap.size ≤ w2.heap.size) := Lib.hid ⟨H1.out.lt (b := b0) (cs := zC) (t := 37) (by simp), H1.out.lt (b := b3) (cs := #[.int .u64 223588670687113535, .int .u64 82055451961885530]) (t := 24) (by simp), H1.out.2.size⟩
 generalize (w2.alloc (.cells zC 37)).setCells w2.heap.size 0 (txC p0D).toList = w3 at H2 ⊢
 generalize w2.heap.size = b2 at H2 hl2 ⊢
 clear H1
 refine wp_region_noPanic ?_
 refine wp_region_held_drew (S := fun wq => wq.cell? ⟨b3, 0, none⟩ = some (.int .u64 223588670687113535) ∧ wq.cell? ⟨b3, 1, none⟩ = some (.int .u64 82055451961885530) ∧ HR w wq [(b3, #[.int .u64 223588670687113535, .int .u64 82055451961885530], 24), (b0, zC, 37)]) (by kernel_rfl) ?_ (fun hHeld => ?_)
 ·have hq0 := HR.drew (HR.sub (qs := [(b3, #[.int .u64 223588670687113535, .int .u64 82055451961885530], 24), (b0, zC, 37)]) H2.out (by simp))
  exact ⟨HR.cell hq0 (b := b3) (cs := #[.int .u64 223588670687113535, .int .u64 82055451961885530]) (t := 24) (by simp) 0 rfl, HR.cell hq0 (b := b3) (cs := #[.int .u64 223588670687113535, .int .u64 82055451961885530]) (t := 24) (by simp) 1 rfl, hq0⟩
 refine tk 0 hHeld ?_; refine tk 3 hHeld ?_
 have hmk := mk32
 refine st 1 fun K hK => ?_
 go_simp
 refine hK.out _ _ ?_ (fun hHeld => ?_)
 ·have hq1 := HR.alloc hHeld.2.2 (.cells (u8s z32) 5)
  exact ⟨HR.cell hq1 (b := b3) (cs := #[.int .u64 223588670687113535, .int .u64 82055451961885530]) (t := 24) (by simp) 0 rfl, HR.cell hq1 (b := b3) (cs := #[.int .u64 223588670687113535, .int .u64 82055451961885530]) (t := 24) (by simp) 1 rfl, hq1⟩
 clear hK K hmk
 try simp only [Act.put, List.setIfInBounds_toArray, List.set_cons_zero, List.set_cons_succ]
 refine tk 2 hHeld ?_; refine tk 4 hHeld ?_
 have HA := (H2.out.new (u8s z32) 5).drew
 have hlB : Hid (b0 < w3.heap.size ∧ b3 < w3.heap.size ∧ b2 < w3.heap.size ∧ w.heap.size ≤ w3.heap.size) := Lib.hid ⟨H2.out.lt (b := b0) (cs := zC) (t := 37) (by simp), H2.out.lt (b := b3) (cs := #[.int .u64 223588670687113535, .int .u64 82055451961885530]) (t := 24) (by simp), H2.out.lt (b := b2) (cs := txC p0D) (t := 37) (by simp), H2.out.2.size⟩
 have hth := (HA.row (b := b2) (cs := txC p0D) (t := 37) (by simp)).thereMid 12 3 (by simp)
 refine st 5 fun K hK => ?_
 refine wp_store_mid 28 _ _ rfl b2 12 #[.int .u64 223588670687113535, .int .u64 82055451961885530, .slice (some ⟨w3.heap.size, 0, none⟩) 32 32] rfl rfl hth sizSE (one3s _ _ _ _ _) ?_
 refine hK.out _ _ ?_ (fun hHeld => ?_)
 ·have hq1 := HR.otherMany (D := b2) (by have := hl2.out; simp; omega) (by have := hl2.out; omega) (#[.int .u64 223588670687113535, .int .u64 82055451961885530, .slice (some ⟨w3.heap.size, 0, none⟩) 32 32] : Array Value).toList 12 _ hHeld.2.2
  exact ⟨HR.cell hq1 (b := b3) (cs := #[.int .u64 223588670687113535, .int .u64 82055451961885530]) (t := 24) (by simp) 0 rfl, HR.cell hq1 (b := b3) (cs := #[.int .u64 223588670687113535, .int .u64 82055451961885530]) (t := 24) (by simp) 1 rfl, hq1⟩
 clear hK K
 try simp only [Act.put, List.setIfInBounds_toArray, List.set_cons_zero, List.set_cons_succ]
 refine wpAnyH_done (by kernel_rfl) (NoPanic.normal ?_) _
 have H3 : Hid (HR w ((w3.alloc (.cells (u8s z32) 5)).drew.setCells b2 12 (#[.int .u64 223588670687113535, .int .u64 82055451961885530, .slice (some ⟨w3.heap.size, 0, none⟩) 32 32] : Array Value).toList) [(b2, txC (p1D w3.heap.size), 37), (w3.heap.size, u8s z32, 5), (b0, zC, 37)]) :=
  Lib.hid (HR.putMany (HR.sub HA (qs := [(b2, txC p0D, 37), (w3.heap.size, u8s z32, 5), (b0, zC, 37)]) (by simp)) (by have := hlB.out; have := hl2.out; simp; omega) (by have := hl2.out; omega) _ 12 (by simp) rfl)
 clear hHeld hth HA H2
 generalize (w3.alloc (.cells (u8s z32) 5)).drew.setCells b2 12 (#[.int .u64 223588670687113535, .int .u64 82055451961885530, .slice (some ⟨w3.heap.size, 0, none⟩) 32 32] : Array Value).toList = w4 at H3 ⊢
 generalize w3.heap.size = g at H3 hlB ⊢
 have k0 := H3.out.cell (b := b2) (cs := txC (p1D g)) (t := 37) (by simp) 12 rfl
 have k1 := H3.out.cell (b := b2) (cs := txC (p1D g)) (t := 37) (by simp) 13 rfl
 have k2 := H3.out.cell (b := b2) (cs := txC (p1D g)) (t := 37) (by simp) 14 rfl
 have hth := (H3.out.row (b := b2) (cs := txC (p1D g)) (t := 37) (by simp)).thereMid 15 3 (by simp)
 go_upto_region 5 with (refine wpList_store_mid rfl _ _ _ rfl b2 15 #[.int .u64 223588670687113535, .int .u64 82055451961885530, .slice (some ⟨g, 0, none⟩) 32 32] rfl rfl hth sizSE (one3s _ _ _ _ _) ?_)
 have H4 : Hid (HR w (w4.setCells b2 15 (#[.int .u64 223588670687113535, .int .u64 82055451961885530, .slice (some ⟨g, 0, none⟩) 32 32] : Array Value).toList) [(b2, txC (p2D g), 37), (g, u8s z32, 5), (b0, zC, 37)]) :=
  Lib.hid (HR.putMany H3.out (by have := hlB.out; have := hl2.out; simp; omega) (by have := hl2.out; omega) _ 15 (by simp) rfl)
 clear k0 k1 k2 hth H3
 generalize w4.setCells b2 15 (#[.int .u64 223588670687113535, .int .u64 82055451961885530, .slice (some ⟨g, 0, none⟩) 32 32] : Array Value).toList = w5 at H4 ⊢
 have hr := H4.out.row (b := b2) (cs := txC (p2D g)) (t := 37) (by simp)
 go_wp2_with (refine wpList_load_row rfl _ _ rfl b2 rfl 37 (txC (p2D g)) (0, 0) _ hr undT rfl sizTX ?_)
 refine (lBare (p2D g) _).mono ?_
 rintro e w6 ⟨rfl, hb⟩
 have H5 := Lib.hid (H4.out.next hb)
 clear hb H4 hr
 have h0 := H5.out.row (b := b0) (cs := zC) (t := 37) (by simp)
 have hth := h0.there
 go_wp2_with (refine wpList_store_mid rfl _ _ _ rfl b0 0 (txC (plD g)) rfl rfl hth sizTX (oneTx _) ?_)
 have RZ := h0.store (txC (plD g)) rfl
 have HZ := HR.putMany (cs := zC) (t := 37) (rs := [(g, u8s z32, 5)]) (HR.sub (qs := [(b0, zC, 37), (g, u8s z32, 5)]) H5.out (by simp)) (by have := hlB.out; simp; omega) (by have := hbs.out; omega) (txC (plD g)).toList 0 (by simp) rfl
 exact bodyPost_ret (v := _) (results_cell_row rfl _ _ _ _ _ _ _ rfl RZ undT rfl sizTX) rfl ⟨g, rfl, by have := hlB.out; omega, HZ.row (by simp), HZ.2⟩

end Go.Proofs.YtkfimfjjmdjbdaaGreatDoor
/- Plain law: package tx: what the reader gives back of what was written. -/
namespace Obol
theorem tk_app (k : Nat) (M r : List Nat) (h : M.length = k) : tkS k (false, M ++ r) = (false, r) ∧ tkM k (false, M ++ r) = M := by
  subst h
  have hb : tkB M.length (false, M ++ r) = false := by unfold tkB; simp
  unfold tkS tkM
  rw [hb]
  simp
theorem rdN_app (n : Nat) (r : List Nat) (h : n < 18446744073709551616) : rdN (false, be8 n ++ r) = n := by
  unfold rdN
  rw [(tk_app 8 (be8 n) r rfl).2, num_be n h]
theorem tkS_bad (k : Nat) (l : List Nat) : (tkS k (true, l)).1 = true := by unfold tkS tkB; simp
theorem tkS_ok {k : Nat} {s : Rs} (h : (tkS k s).1 = false) : s.1 = false ∧ s.2 = tkM k s ++ (tkS k s).2 := by
  unfold tkS at h ⊢
  unfold tkM
  cases hb : tkB k s with
  | true => rw [hb] at h; simp at h
  | false =>
    unfold tkB at hb
    simp at hb
    simp [hb.1]
theorem ptS_app {p : Nat × Nat} (n : Nat) (r : List Nat) (hr : readN n = some p) (hc : n < 18446744073709551616) : ptS (false, be8 n ++ r) = (false, r) ∧ ptP (false, be8 n ++ r) = p := by
  have e := rdN_app n r hc
  refine ⟨?_, ?_⟩
  · unfold ptS
    rw [e, hr]
    exact (tk_app 8 (be8 n) r rfl).1
  · unfold ptP
    rw [e, hr]
theorem ptS_ok {s : Rs} (h : (ptS s).1 = false) : s.1 = false ∧ s.2 = tkM 8 s ++ (ptS s).2 ∧ readN (rdN s) = some (ptP s) := by
  have hx : (∃ p, readN (rdN s) = some p) ∨ readN (rdN s) = Option.none := by
    cases readN (rdN s) with
    | none => exact .inr rfl
    | some p => exact .inl ⟨p, rfl⟩
  rcases hx with ⟨p, hr⟩ | hr
  · have e1 : ptS s = tkS 8 s := by unfold ptS; rw [hr]
    have e2 : ptP s = p := by unfold ptP; rw [hr]
    rw [e1] at h ⊢
    rw [e2]
    exact ⟨(tkS_ok h).1, (tkS_ok h).2, hr⟩
  · have e1 : ptS s = (true, (tkS 8 s).2) := by unfold ptS; rw [hr]
    rw [e1] at h
    exact absurd h (by simp)
theorem pfS_ok {s : Rs} (h : (pfS s).1 = false) : s.1 = false ∧ s.2 = tkM (pfK s) s ++ (pfS s).2 ∧ crd (tkM (pfK s) s) = some (pfP s) := by
  have hx : (∃ p, crd (tkM (pfK s) s) = some p) ∨ crd (tkM (pfK s) s) = Option.none := by
    cases crd (tkM (pfK s) s) with
    | none => exact .inr rfl
    | some p => exact .inl ⟨p, rfl⟩
  rcases hx with ⟨p, hr⟩ | hr
  · have e1 : pfS s = tkS (pfK s) s := by unfold pfS; rw [hr]
    have e2 : pfP s = p := by unfold pfP; rw [hr]
    rw [e1] at h ⊢
    rw [e2]
    exact ⟨(tkS_ok h).1, (tkS_ok h).2, hr⟩
  · have e1 : pfS s = (true, (tkS (pfK s) s).2) := by unfold pfS; rw [hr]
    rw [e1] at h
    exact absurd h (by simp)
end Obol
/- Plain law: package tx: what was written is read as it was; what was read is written as those bytes. -/
namespace Obol
theorem crd_app {A B : List Nat} (hA : A.length = 8) (hB : B.length = 8) (h : isC (num8 A) (num8 B) = true) : crd (1 :: (A ++ B)) = some (false, num8 A, num8 B) := by
  have l : (1 :: (A ++ B)).length = 17 := by rw [List.length_cons, List.length_append, hA, hB]
  have e1 : ((1 :: (A ++ B)).drop 1).take 8 = A := by rw [← hA]; exact List.take_left
  have e2 : (1 :: (A ++ B)).drop 9 = B := by
    show (A ++ B).drop 8 = B
    rw [← hA]; exact List.drop_left
  unfold crd
  rw [if_neg (by rw [l]; simp), if_pos ⟨l, rfl⟩, e1, e2, if_pos h]
theorem be8_len (n : Nat) : (be8 n).length = 8 := rfl
theorem pfK_one (X : List Nat) (h : X.getD 0 0 = 1) (h0 : 0 < X.length) : pfK (false, X) = 17 := by unfold pfK; rw [if_pos ⟨h0, h⟩]
theorem pfK_two (X : List Nat) (h : X.getD 0 0 ≠ 1) : pfK (false, X) = 1 := by unfold pfK; rw [if_neg (fun g => h g.2)]
theorem pfS_of {s : Rs} {p : Bool × Nat × Nat} (h : crd (tkM (pfK s) s) = some p) : pfS s = tkS (pfK s) s ∧ pfP s = p := by
  refine ⟨?_, ?_⟩
  · unfold pfS; rw [h]
  · unfold pfP; rw [h]
theorem pfS_app0 (r : List Nat) : pfS (false, 0 :: r) = (false, r) ∧ pfP (false, 0 :: r) = (true, 0, 0) := by
  have k : pfK (false, 0 :: r) = 1 := pfK_two _ (by simp)
  have t := tk_app 1 [0] r rfl
  have hc : crd (tkM (pfK (false, 0 :: r)) (false, 0 :: r)) = some (true, 0, 0) := by
    rw [k]
    show crd (tkM 1 (false, [0] ++ r)) = _
    rw [t.2]
    unfold crd
    rw [if_pos ⟨rfl, rfl⟩]
  obtain ⟨e1, e2⟩ := pfS_of hc
  rw [e1, e2, k]
  exact ⟨t.1, rfl⟩
theorem pfS_app1 {A B : List Nat} (hA : A.length = 8) (hB : B.length = 8) (h : isC (num8 A) (num8 B) = true) (r : List Nat) :
    pfS (false, (1 :: (A ++ B)) ++ r) = (false, r) ∧ pfP (false, (1 :: (A ++ B)) ++ r) = (false, num8 A, num8 B) := by
  have k : pfK (false, (1 :: (A ++ B)) ++ r) = 17 := pfK_one _ rfl (by simp)
  have t := tk_app 17 (1 :: (A ++ B)) r (by rw [List.length_cons, List.length_append, hA, hB])
  have hc : crd (tkM (pfK (false, (1 :: (A ++ B)) ++ r)) (false, (1 :: (A ++ B)) ++ r)) = some (false, num8 A, num8 B) := by
    rw [k, t.2]
    exact crd_app hA hB h
  obtain ⟨e1, e2⟩ := pfS_of hc
  rw [e1, e2, k]
  exact ⟨t.1, rfl⟩
theorem isC_lt {x y : Nat} (h : isC x y = true) : x < 18446744073709551616 ∧ y < 18446744073709551616 := by
  unfold isC at h
  simp only [Bool.and_eq_true, decide_eq_true_eq] at h
  have e : P < 18446744073709551616 := by decide
  omega
theorem pfS_app (i : Bool) (x y : Nat) (r : List Nat) (h : if i = true then x = 0 ∧ y = 0 else isC x y = true) : pfS (false, ptL i x y ++ r) = (false, r) ∧ pfP (false, ptL i x y ++ r) = (i, x, y) := by
  cases i
  · rw [if_neg (by simp)] at h
    have hl := isC_lt h
    have e : ptL false x y = 1 :: (be8 x ++ be8 y) := by unfold ptL; rw [if_neg (by simp)]
    have nx := num_be x hl.1
    have ny := num_be y hl.2
    have q := pfS_app1 (be8_len x) (be8_len y) (by rw [nx, ny]; exact h) r
    rw [nx, ny] at q
    rw [e]
    exact q
  · rw [if_pos rfl] at h
    obtain ⟨rfl, rfl⟩ := h
    exact pfS_app0 r
/-- Bytes that were read as a point are the point's. -/
theorem crd_ok {M : List Nat} {p : Bool × Nat × Nat} (hb : ∀ i, M.getD i 0 < 256) (h : crd M = some p) : ptL p.1 p.2.1 p.2.2 = M := by
  unfold crd at h
  split at h
  · rename_i hc
    simp only [Option.some.injEq] at h
    subst h
    obtain ⟨h1, h2⟩ := hc
    match M, h1, h2 with
    | [a], _, h2 =>
      have : a = 0 := h2
      subst this
      rfl
  · split at h
    · rename_i hc
      obtain ⟨h1, h2⟩ := hc
      split at h
      · simp only [Option.some.injEq] at h
        subst h
        unfold ptL
        rw [if_neg (by simp)]
        have q1 : be8 (num8 ((M.drop 1).take 8)) = (M.drop 1).take 8 := be_num8 (fun x hx => mem_lt hb x (List.mem_of_mem_drop (List.mem_of_mem_take hx))) (by simp [h1])
        have q2 : be8 (num8 (M.drop 9)) = M.drop 9 := be_num8 (fun x hx => mem_lt hb x (List.mem_of_mem_drop hx)) (by simp [h1])
        show 1 :: (be8 (num8 ((M.drop 1).take 8)) ++ be8 (num8 (M.drop 9))) = M
        rw [q1, q2]
        have q3 : M.drop 9 = (M.drop 1).drop 8 := by rw [List.drop_drop]
        rw [q3, List.take_append_drop]
        match M, h1, h2 with
        | a :: l, _, h2 =>
          have : a = 1 := h2
          subst this
          rfl
      · cases h
    · cases h
/-- The code of a point that was read is the number that was read. -/
theorem code_read {n : Nat} (h : n < 18446744073709551616) {p : Nat × Nat} (hp : readN n = some p) : codeN p = n := by
  obtain ⟨_, _, _, h4, h5⟩ := (read_is n h).2 p hp
  unfold codeN
  rw [h4, h5]
  omega
theorem be_rdN {s : Rs} (h : ∀ i, s.2.getD i 0 < 256) : be8 (rdN s) = tkM 8 s := be_num8 (mem_lt (tkM_lt 8 h)) (tkM_len 8 s)
theorem be_ptP {s : Rs} (h : ∀ i, s.2.getD i 0 < 256) (hr : readN (rdN s) = some (ptP s)) : be8 (codeN (ptP s)) = tkM 8 s := by
  rw [code_read (rdN_lt h) hr]; exact be_rdN h
theorem codeN_lt {p : Nat × Nat} (h : isN p = true) : codeN p < 18446744073709551616 := by
  unfold isN at h
  simp only [Bool.and_eq_true, decide_eq_true_eq] at h
  unfold codeN
  have e : R < 9223372036854775808 := by decide
  omega
theorem ptS_code {p : Nat × Nat} (r : List Nat) (h : isN p = true) : ptS (false, be8 (codeN p) ++ r) = (false, r) ∧ ptP (false, be8 (codeN p) ++ r) = p :=
  ptS_app (codeN p) r (read_code h) (codeN_lt h)
end Obol
/- Plain law: package tx: the reader's chain over what was written, and over any bytes. -/
namespace Obol
def Bd (s : Rs) : Prop := ∀ i, s.2.getD i 0 < 256
theorem stN {s s' : Rs} (h : Bd s) (e : tkS 8 s = s') : Bd s' ∧ (s'.1 = false → s.1 = false ∧ s.2 = be8 (rdN s) ++ s'.2) := by
 subst e
 refine ⟨tkS_lt 8 h, fun g => ?_⟩
 rw [be_rdN h]
 exact tkS_ok g
theorem stB {s s' : Rs} (h : Bd s) (e : tkS 32 s = s') : Bd s' ∧ (s'.1 = false → s.1 = false ∧ s.2 = tkM 32 s ++ s'.2) := by
 subst e
 exact ⟨tkS_lt 32 h, fun g => tkS_ok g⟩
theorem stP {s s' : Rs} (h : Bd s) (e : ptS s = s') : Bd s' ∧ (s'.1 = false → s.1 = false ∧ s.2 = be8 (codeN (ptP s)) ++ s'.2) := by
 subst e
 refine ⟨ptS_lt h, fun g => ?_⟩
 obtain ⟨h1, h2, h3⟩ := ptS_ok g
 rw [be_ptP h h3]
 exact ⟨h1, h2⟩
theorem stF1 {s s' : Rs} (h : Bd s) (e : pfS s = s') : Bd s' ∧ (s'.1 = false → s.1 = false ∧ s.2 = ptL (pfP s).1 (pfP s).2.1 (pfP s).2.2 ++ s'.2) := by
 subst e
 refine ⟨pfS_lt h, fun g => ?_⟩
 obtain ⟨h1, h2, h3⟩ := pfS_ok g
 rw [crd_ok (tkM_lt _ h) h3]
 exact ⟨h1, h2⟩
theorem pfV_at (s : Rs) (k : Nat) (h : k < 3) : pfV s 3 k = pfP (pfN s k) := by unfold pfV; rw [if_pos h]
theorem stF {s s' : Rs} (h : Bd s) (e : pfN s 3 = s') : Bd s' ∧ (s'.1 = false → s.1 = false ∧ s.2 = ptL (pfV s 3 0).1 (pfV s 3 0).2.1 (pfV s 3 0).2.2 ++ (ptL (pfV s 3 1).1 (pfV s 3 1).2.1 (pfV s 3 1).2.2 ++ (ptL (pfV s 3 2).1 (pfV s 3 2).2.1 (pfV s 3 2).2.2 ++ s'.2))) := by
 rw [pfV_at s 0 (by decide), pfV_at s 1 (by decide), pfV_at s 2 (by decide)]
 have a0 := stF1 h (rfl : pfS s = pfN s 1)
 have a1 := stF1 a0.1 (rfl : pfS (pfN s 1) = pfN s 2)
 have a2 := stF1 a1.1 (show pfS (pfN s 2) = s' from e)
 refine ⟨a2.1, fun g => ?_⟩
 obtain ⟨h2, e2⟩ := a2.2 g
 obtain ⟨h1, e1⟩ := a1.2 h2
 obtain ⟨h0, e0⟩ := a0.2 h1
 refine ⟨h0, ?_⟩
 rw [e0, e1, e2]
 rfl
theorem bkN {s s' : Rs} {v : Nat} {r : List Nat} (e : tkS 8 s = s') (hs : s = (false, be8 v ++ r)) (hv : v < 18446744073709551616) : s' = (false, r) ∧ rdN s = v := by
 subst e hs
 exact ⟨(tk_app 8 (be8 v) r (be8_len v)).1, rdN_app v r hv⟩
theorem bkB {s s' : Rs} {M r : List Nat} (e : tkS 32 s = s') (hs : s = (false, M ++ r)) (hM : M.length = 32) : s' = (false, r) ∧ tkM 32 s = M := by
 subst e hs
 exact tk_app 32 M r hM
theorem bkP {s s' : Rs} {p : Nat × Nat} {r : List Nat} (e : ptS s = s') (hs : s = (false, be8 (codeN p) ++ r)) (hp : isN p = true) : s' = (false, r) ∧ ptP s = p := by
 subst e hs
 exact ptS_code r hp
theorem bkF {s s' : Rs} {i0 i1 i2 : Bool} {x0 y0 x1 y1 x2 y2 : Nat} {r : List Nat} (e : pfN s 3 = s') (hs : s = (false, ptL i0 x0 y0 ++ (ptL i1 x1 y1 ++ (ptL i2 x2 y2 ++ r))))
  (h0 : if i0 = true then x0 = 0 ∧ y0 = 0 else isC x0 y0 = true) (h1 : if i1 = true then x1 = 0 ∧ y1 = 0 else isC x1 y1 = true) (h2 : if i2 = true then x2 = 0 ∧ y2 = 0 else isC x2 y2 = true) :
  s' = (false, r) ∧ pfV s 3 0 = (i0, x0, y0) ∧ pfV s 3 1 = (i1, x1, y1) ∧ pfV s 3 2 = (i2, x2, y2) := by
 rw [pfV_at s 0 (by decide), pfV_at s 1 (by decide), pfV_at s 2 (by decide)]
 have a0 := pfS_app i0 x0 y0 (ptL i1 x1 y1 ++ (ptL i2 x2 y2 ++ r)) h0
 rw [← hs] at a0
 have a1 := pfS_app i1 x1 y1 (ptL i2 x2 y2 ++ r) h1
 rw [← a0.1] at a1
 have a2 := pfS_app i2 x2 y2 r h2
 rw [← a1.1] at a2
 refine ⟨?_, a0.2, a1.2, a2.2⟩
 rw [← e]
 exact a2.1
end Obol
namespace Go.Proofs.YtkfimfjjmdjbdaaGreatDoor
open Go.RowKit
theorem pt_plain {i : Bool} {x y : Int} (h : isPt i x y = true) : if i = true then x.toNat = 0 ∧ y.toNat = 0 else Obol.isC x.toNat y.toNat = true := by
 unfold isPt at h
 cases i
 ·rw [if_neg (by simp)] at h ⊢
  exact h
 ·rw [if_pos rfl] at h ⊢
  simp only [Bool.and_eq_true, beq_iff_eq] at h
  omega
theorem wriL_flat (t : TxD) (L0 L1 r : List Nat) : wriL t L0 L1 ++ r = Obol.be8 t.root.toNat ++ (Obol.be8 t.inn.toNat ++ (Obol.be8 t.out.toNat ++ (Obol.be8 (Obol.codeN (t.fx.toNat, t.fy.toNat)) ++ (Obol.be8 (Obol.codeN (t.tx.toNat, t.ty.toNat)) ++ (Obol.be8 t.seq.toNat ++ (Obol.be8 t.e0.toNat ++ (Obol.be8 t.e1.toNat ++ (Obol.be8 t.m0.toNat ++ (Obol.be8 t.m1.toNat ++ (Obol.be8 (Obol.codeN (t.n0x.toNat, t.n0y.toNat)) ++ (L0 ++ (Obol.be8 (Obol.codeN (t.n1x.toNat, t.n1y.toNat)) ++ (L1 ++ (Obol.be8 t.a0.toNat ++ (Obol.be8 t.a1.toNat ++ (Obol.ptL t.ia t.xa.toNat t.ya.toNat ++ (Obol.ptL t.ib t.xb.toNat t.yb.toNat ++ (Obol.ptL t.ic t.xc.toNat t.yc.toNat ++ (Obol.be8 (Obol.codeN (t.gx.toNat, t.gy.toNat)) ++ (Obol.be8 t.gz.toNat ++ (r))))))))))))))))))))) := by
 unfold wriL bodL hd4 hd3 hd2 hd1 Obol.be8s edC prL
 simp only [List.append_assoc, List.flatMap_cons, List.flatMap_nil, List.append_nil, List.nil_append]
set_option maxHeartbeats 4000000 in
/-- Bytes that were read are the transaction's, and those behind it. -/
theorem rdc_read {L : List Nat} {t : TxD} {M0 M1 : List Nat} {z : Obol.Rs} (h : RdC L t M0 M1 z) (hb : ∀ i, L.getD i 0 < 256) (hzf : z.1 = false) : L = wriL t M0 M1 ++ z.2 := by
 rw [wriL_flat]
 obtain ⟨s0, s1, s2, s3, s4, s5, s6, s7, s8, s9, s10, s11, s12, s13, s14, s15, s16, s17, s18, s19, hs0, hs1, hs2, hs3, hs4, hs5, hs6, hs7, hs8, hs9, hs10, hs11, hs12, hs13, hs14, hs15, hs16, hs17, hs18, hs19, hz, hM0, hM1, v_root, v_inn, v_out, v_fx, v_fy, v_tx, v_ty, v_seq, v_e0, v_e1, v_m0, v_m1, v_n0x, v_n0y, v_n1x, v_n1y, v_a0, v_a1, v_ia, v_xa, v_ya, v_ib, v_xb, v_yb, v_ic, v_xc, v_yc, v_gx, v_gy, v_gz⟩ := h
 have b0 : Obol.Bd s0 := by rw [← hs0]; exact hb
 have a0 := Obol.stN b0 hs1
 have b1 := a0.1
 have a1 := Obol.stN b1 hs2
 have b2 := a1.1
 have a2 := Obol.stN b2 hs3
 have b3 := a2.1
 have a3 := Obol.stP b3 hs4
 have b4 := a3.1
 have a4 := Obol.stP b4 hs5
 have b5 := a4.1
 have a5 := Obol.stN b5 hs6
 have b6 := a5.1
 have a6 := Obol.stN b6 hs7
 have b7 := a6.1
 have a7 := Obol.stN b7 hs8
 have b8 := a7.1
 have a8 := Obol.stN b8 hs9
 have b9 := a8.1
 have a9 := Obol.stN b9 hs10
 have b10 := a9.1
 have a10 := Obol.stP b10 hs11
 have b11 := a10.1
 have a11 := Obol.stB b11 hs12
 have b12 := a11.1
 have a12 := Obol.stP b12 hs13
 have b13 := a12.1
 have a13 := Obol.stB b13 hs14
 have b14 := a13.1
 have a14 := Obol.stN b14 hs15
 have b15 := a14.1
 have a15 := Obol.stN b15 hs16
 have b16 := a15.1
 have a16 := Obol.stF b16 hs17
 have b17 := a16.1
 have a17 := Obol.stP b17 hs18
 have b18 := a17.1
 have a18 := Obol.stN b18 hs19
 have b19 := a18.1
 rw [← hz] at hzf ⊢
 obtain ⟨f18, e18⟩ := a18.2 hzf
 obtain ⟨f17, e17⟩ := a17.2 f18
 obtain ⟨f16, e16⟩ := a16.2 f17
 obtain ⟨f15, e15⟩ := a15.2 f16
 obtain ⟨f14, e14⟩ := a14.2 f15
 obtain ⟨f13, e13⟩ := a13.2 f14
 obtain ⟨f12, e12⟩ := a12.2 f13
 obtain ⟨f11, e11⟩ := a11.2 f12
 obtain ⟨f10, e10⟩ := a10.2 f11
 obtain ⟨f9, e9⟩ := a9.2 f10
 obtain ⟨f8, e8⟩ := a8.2 f9
 obtain ⟨f7, e7⟩ := a7.2 f8
 obtain ⟨f6, e6⟩ := a6.2 f7
 obtain ⟨f5, e5⟩ := a5.2 f6
 obtain ⟨f4, e4⟩ := a4.2 f5
 obtain ⟨f3, e3⟩ := a3.2 f4
 obtain ⟨f2, e2⟩ := a2.2 f3
 obtain ⟨f1, e1⟩ := a1.2 f2
 obtain ⟨f0, e0⟩ := a0.2 f1
 have eL : L = s0.2 := by rw [← hs0]
 have n_root := congrArg Int.toNat v_root
 rw [Int.toNat_natCast] at n_root
 have n_inn := congrArg Int.toNat v_inn
 rw [Int.toNat_natCast] at n_inn
 have n_out := congrArg Int.toNat v_out
 rw [Int.toNat_natCast] at n_out
 have n_fx := congrArg Int.toNat v_fx
 rw [Int.toNat_natCast] at n_fx
 have n_fy := congrArg Int.toNat v_fy
 rw [Int.toNat_natCast] at n_fy
 have n_tx := congrArg Int.toNat v_tx
 rw [Int.toNat_natCast] at n_tx
 have n_ty := congrArg Int.toNat v_ty
 rw [Int.toNat_natCast] at n_ty
 have n_seq := congrArg Int.toNat v_seq
 rw [Int.toNat_natCast] at n_seq
 have n_e0 := congrArg Int.toNat v_e0
 rw [Int.toNat_natCast] at n_e0
 have n_e1 := congrArg Int.toNat v_e1
 rw [Int.toNat_natCast] at n_e1
 have n_m0 := congrArg Int.toNat v_m0
 rw [Int.toNat_natCast] at n_m0
 have n_m1 := congrArg Int.toNat v_m1
 rw [Int.toNat_natCast] at n_m1
 have n_n0x := congrArg Int.toNat v_n0x
 rw [Int.toNat_natCast] at n_n0x
 have n_n0y := congrArg Int.toNat v_n0y
 rw [Int.toNat_natCast] at n_n0y
 have n_n1x := congrArg Int.toNat v_n1x
 rw [Int.toNat_natCast] at n_n1x
 have n_n1y := congrArg Int.toNat v_n1y
 rw [Int.toNat_natCast] at n_n1y
 have n_a0 := congrArg Int.toNat v_a0
 rw [Int.toNat_natCast] at n_a0
 have n_a1 := congrArg Int.toNat v_a1
 rw [Int.toNat_natCast] at n_a1
 have n_xa := congrArg Int.toNat v_xa
 rw [Int.toNat_natCast] at n_xa
 have n_ya := congrArg Int.toNat v_ya
 rw [Int.toNat_natCast] at n_ya
 have n_xb := congrArg Int.toNat v_xb
 rw [Int.toNat_natCast] at n_xb
 have n_yb := congrArg Int.toNat v_yb
 rw [Int.toNat_natCast] at n_yb
 have n_xc := congrArg Int.toNat v_xc
 rw [Int.toNat_natCast] at n_xc
 have n_yc := congrArg Int.toNat v_yc
 rw [Int.toNat_natCast] at n_yc
 have n_gx := congrArg Int.toNat v_gx
 rw [Int.toNat_natCast] at n_gx
 have n_gy := congrArg Int.toNat v_gy
 rw [Int.toNat_natCast] at n_gy
 have n_gz := congrArg Int.toNat v_gz
 rw [Int.toNat_natCast] at n_gz
 rw [eL, e0, e1, e2, e3, e4, e5, e6, e7, e8, e9, e10, e11, e12, e13, e14, e15, e16, e17, e18]
 rw [← n_root, ← n_inn, ← n_out, ← n_fx, ← n_fy, ← n_tx, ← n_ty, ← n_seq, ← n_e0, ← n_e1, ← n_m0, ← n_m1, ← n_n0x, ← n_n0y, ← n_n1x, ← n_n1y, ← n_a0, ← n_a1, ← v_ia, ← n_xa, ← n_ya, ← v_ib, ← n_xb, ← n_yb, ← v_ic, ← n_xc, ← n_yc, ← n_gx, ← n_gy, ← n_gz, ← hM0, ← hM1]
/-- Alike but for where the bodies lie. -/
def Alike (t u : TxD) : Prop := t.root = u.root ∧ t.inn = u.inn ∧ t.out = u.out ∧ t.fx = u.fx ∧ t.fy = u.fy ∧ t.tx = u.tx ∧ t.ty = u.ty ∧ t.seq = u.seq ∧ t.e0 = u.e0 ∧ t.e1 = u.e1 ∧ t.m0 = u.m0 ∧ t.m1 = u.m1 ∧ t.n0x = u.n0x ∧ t.n0y = u.n0y ∧ t.n1x = u.n1x ∧ t.n1y = u.n1y ∧ t.a0 = u.a0 ∧ t.a1 = u.a1 ∧ t.ia = u.ia ∧ t.xa = u.xa ∧ t.ya = u.ya ∧ t.ib = u.ib ∧ t.xb = u.xb ∧ t.yb = u.yb ∧ t.ic = u.ic ∧ t.xc = u.xc ∧ t.yc = u.yc ∧ t.gx = u.gx ∧ t.gy = u.gy ∧ t.gz = u.gz
set_option maxHeartbeats 4000000 in
theorem rdc_back {L r : List Nat} {t u : TxD} {M0 M1 L0 L1 : List Nat} {z : Obol.Rs} (hL : L = wriL u L0 L1 ++ r) (hu : TxOk u) (hm : MayI u) (h0 : L0.length = 32) (h1 : L1.length = 32) (h : RdC L t M0 M1 z) :
  Alike t u ∧ M0 = L0 ∧ M1 = L1 ∧ z = (false, r) := by
 rw [wriL_flat] at hL
 obtain ⟨s0, s1, s2, s3, s4, s5, s6, s7, s8, s9, s10, s11, s12, s13, s14, s15, s16, s17, s18, s19, hs0, hs1, hs2, hs3, hs4, hs5, hs6, hs7, hs8, hs9, hs10, hs11, hs12, hs13, hs14, hs15, hs16, hs17, hs18, hs19, hz, hM0, hM1, v_root, v_inn, v_out, v_fx, v_fy, v_tx, v_ty, v_seq, v_e0, v_e1, v_m0, v_m1, v_n0x, v_n0y, v_n1x, v_n1y, v_a0, v_a1, v_ia, v_xa, v_ya, v_ib, v_xb, v_yb, v_ic, v_xc, v_yc, v_gx, v_gy, v_gz⟩ := h
 have g0 : s0 = _ := hs0.symm.trans (congrArg (fun l => (false, l)) hL)
 obtain ⟨g1, q_root⟩ := Obol.bkN hs1 g0 (by have := hu.root1; omega)
 obtain ⟨g2, q_inn⟩ := Obol.bkN hs2 g1 (by have := hu.inn1; omega)
 obtain ⟨g3, q_out⟩ := Obol.bkN hs3 g2 (by have := hu.out1; omega)
 obtain ⟨g4, q_fx⟩ := Obol.bkP hs4 g3 hm.pf
 obtain ⟨g5, q_tx⟩ := Obol.bkP hs5 g4 hm.pt
 obtain ⟨g6, q_seq⟩ := Obol.bkN hs6 g5 (by have := hu.seq1; omega)
 obtain ⟨g7, q_e0⟩ := Obol.bkN hs7 g6 (by have := hu.e01; omega)
 obtain ⟨g8, q_e1⟩ := Obol.bkN hs8 g7 (by have := hu.e11; omega)
 obtain ⟨g9, q_m0⟩ := Obol.bkN hs9 g8 (by have := hu.m01; omega)
 obtain ⟨g10, q_m1⟩ := Obol.bkN hs10 g9 (by have := hu.m11; omega)
 obtain ⟨g11, q_n0x⟩ := Obol.bkP hs11 g10 hm.pn0
 obtain ⟨g12, q_M0⟩ := Obol.bkB hs12 g11 h0
 obtain ⟨g13, q_n1x⟩ := Obol.bkP hs13 g12 hm.pn1
 obtain ⟨g14, q_M1⟩ := Obol.bkB hs14 g13 h1
 obtain ⟨g15, q_a0⟩ := Obol.bkN hs15 g14 (by have := hu.a01; omega)
 obtain ⟨g16, q_a1⟩ := Obol.bkN hs16 g15 (by have := hu.a11; omega)
 obtain ⟨g17, q_a, q_b, q_c⟩ := Obol.bkF hs17 g16 (pt_plain hm.pa) (pt_plain hm.pb) (pt_plain hm.pc)
 obtain ⟨g18, q_gx⟩ := Obol.bkP hs18 g17 hm.pg
 obtain ⟨g19, q_gz⟩ := Obol.bkN hs19 g18 (by have := hu.gz1; omega)
 exact ⟨⟨v_root.symm.trans ((congrArg (fun n => ((n : Nat) : Int)) q_root).trans (Int.toNat_of_nonneg hu.root0)),
  v_inn.symm.trans ((congrArg (fun n => ((n : Nat) : Int)) q_inn).trans (Int.toNat_of_nonneg hu.inn0)),
  v_out.symm.trans ((congrArg (fun n => ((n : Nat) : Int)) q_out).trans (Int.toNat_of_nonneg hu.out0)),
  v_fx.symm.trans ((congrArg (fun p => ((p.1 : Nat) : Int)) q_fx).trans (Int.toNat_of_nonneg hu.fx0)),
  v_fy.symm.trans ((congrArg (fun p => ((p.2 : Nat) : Int)) q_fx).trans (Int.toNat_of_nonneg hu.fy0)),
  v_tx.symm.trans ((congrArg (fun p => ((p.1 : Nat) : Int)) q_tx).trans (Int.toNat_of_nonneg hu.tx0)),
  v_ty.symm.trans ((congrArg (fun p => ((p.2 : Nat) : Int)) q_tx).trans (Int.toNat_of_nonneg hu.ty0)),
  v_seq.symm.trans ((congrArg (fun n => ((n : Nat) : Int)) q_seq).trans (Int.toNat_of_nonneg hu.seq0)),
  v_e0.symm.trans ((congrArg (fun n => ((n : Nat) : Int)) q_e0).trans (Int.toNat_of_nonneg hu.e00)),
  v_e1.symm.trans ((congrArg (fun n => ((n : Nat) : Int)) q_e1).trans (Int.toNat_of_nonneg hu.e10)),
  v_m0.symm.trans ((congrArg (fun n => ((n : Nat) : Int)) q_m0).trans (Int.toNat_of_nonneg hu.m00)),
  v_m1.symm.trans ((congrArg (fun n => ((n : Nat) : Int)) q_m1).trans (Int.toNat_of_nonneg hu.m10)),
  v_n0x.symm.trans ((congrArg (fun p => ((p.1 : Nat) : Int)) q_n0x).trans (Int.toNat_of_nonneg hu.n0x0)),
  v_n0y.symm.trans ((congrArg (fun p => ((p.2 : Nat) : Int)) q_n0x).trans (Int.toNat_of_nonneg hu.n0y0)),
  v_n1x.symm.trans ((congrArg (fun p => ((p.1 : Nat) : Int)) q_n1x).trans (Int.toNat_of_nonneg hu.n1x0)),
  v_n1y.symm.trans ((congrArg (fun p => ((p.2 : Nat) : Int)) q_n1x).trans (Int.toNat_of_nonneg hu.n1y0)),
  v_a0.symm.trans ((congrArg (fun n => ((n : Nat) : Int)) q_a0).trans (Int.toNat_of_nonneg hu.a00)),
  v_a1.symm.trans ((congrArg (fun n => ((n : Nat) : Int)) q_a1).trans (Int.toNat_of_nonneg hu.a10)),
  v_ia.symm.trans (congrArg (·.1) q_a),
  v_xa.symm.trans ((congrArg (fun p => ((p.2.1 : Nat) : Int)) q_a).trans (Int.toNat_of_nonneg hu.xa0)),
  v_ya.symm.trans ((congrArg (fun p => ((p.2.2 : Nat) : Int)) q_a).trans (Int.toNat_of_nonneg hu.ya0)),
  v_ib.symm.trans (congrArg (·.1) q_b),
  v_xb.symm.trans ((congrArg (fun p => ((p.2.1 : Nat) : Int)) q_b).trans (Int.toNat_of_nonneg hu.xb0)),
  v_yb.symm.trans ((congrArg (fun p => ((p.2.2 : Nat) : Int)) q_b).trans (Int.toNat_of_nonneg hu.yb0)),
  v_ic.symm.trans (congrArg (·.1) q_c),
  v_xc.symm.trans ((congrArg (fun p => ((p.2.1 : Nat) : Int)) q_c).trans (Int.toNat_of_nonneg hu.xc0)),
  v_yc.symm.trans ((congrArg (fun p => ((p.2.2 : Nat) : Int)) q_c).trans (Int.toNat_of_nonneg hu.yc0)),
  v_gx.symm.trans ((congrArg (fun p => ((p.1 : Nat) : Int)) q_gx).trans (Int.toNat_of_nonneg hu.gx0)),
  v_gy.symm.trans ((congrArg (fun p => ((p.2 : Nat) : Int)) q_gx).trans (Int.toNat_of_nonneg hu.gy0)),
  v_gz.symm.trans ((congrArg (fun n => ((n : Nat) : Int)) q_gz).trans (Int.toNat_of_nonneg hu.gz0))⟩, hM0.symm.trans q_M0, hM1.symm.trans q_M1, hz.symm.trans g19⟩
theorem Alike.may {t u : TxD} (h : Alike t u) (h0 : t.l0 = u.l0) (h1 : t.l1 = u.l1) : mayB t = mayB u := by
 obtain ⟨eroot, einn, eout, efx, efy, etx, ety, eseq, ee0, ee1, em0, em1, en0x, en0y, en1x, en1y, ea0, ea1, eia, exa, eya, eib, exb, eyb, eic, exc, eyc, egx, egy, egz⟩ := h
 unfold mayB c1 c2 c4 c5 numsL
 rw [eroot, einn, eout, efx, efy, etx, ety, eseq, ee0, ee1, em0, em1, en0x, en0y, en1x, en1y, ea0, ea1, eia, exa, eya, eib, exb, eyb, eic, exc, eyc, egx, egy, egz, h0, h1]
end Go.Proofs.YtkfimfjjmdjbdaaGreatDoor
/- Walks: the statements of layer 19: their head. -/
namespace Go.Proofs.YtkfimfjjmdjbdaaGreatDoor
open Go.RowKit
set_option linter.unusedVariables false


theorem in_zero : inN (0, 1) = true := by
  have h1 : Obol.isN (0, 1) = true := by rw [Obol.isN_eq]; decide +kernel
  unfold inN
  rw [h1, Obol.smulN_eq]
  have e : Obol.Pnt.of (0, 1) = Obol.Pnt.zero := by rw [show ((0, 1) : Nat × Nat) = Obol.Pnt.zero.n from Obol.zero_n.symm, Obol.of_n]
  rw [e, Obol.Pnt.smul_zero, Obol.zero_n]
  rfl
theorem in_gen : inN (223588670687113535, 82055451961885530) = true := by
  have e1 : (223588670687113535, 82055451961885530) = Obol.Pnt.n Obol.G := Obol.G_n.symm
  have h1 : Obol.isN (223588670687113535, 82055451961885530) = true := by rw [Obol.isN_eq]; decide +kernel
  unfold inN
  rw [h1, show (72057593894066549 : Nat) = Obol.S by decide +kernel, e1, Obol.smulN_eq, Obol.of_n, Obol.G_S, Obol.zero_n]
  rfl
theorem may_pl (g : Nat) : mayB (plD g) = true := by
  have hp : inPt true 0 0 = true := by unfold inPt isPt infC; rfl
  have hz : inN ((0 : Int).toNat, (1 : Int).toNat) = true := in_zero
  have hg : inN ((223588670687113535 : Int).toNat, (82055451961885530 : Int).toNat) = true := in_gen
  have h1 : c1 (plD g) = true := (by decide +kernel : c1 (plD 0) = true)
  have h2 : c2 (plD g) = true := by
    show (inN ((0 : Int).toNat, (1 : Int).toNat) && (inN ((0 : Int).toNat, (1 : Int).toNat) && _)) = true
    rw [hz]; rfl
  have h3 : c3 223588670687113535 82055451961885530 32 = true := by unfold c3; rw [hg]; decide
  have h4 : c4 (plD g) = true := by
    show (inPt true 0 0 && (inPt true 0 0 && (inPt true 0 0 && (inN ((0 : Int).toNat, (1 : Int).toNat) && _)))) = true
    rw [hp, hz]; rfl
  unfold mayB
  show (c1 (plD g) && (c2 (plD g) && (c3 223588670687113535 82055451961885530 32 && (c3 223588670687113535 82055451961885530 32 && (c4 (plD g) && !c5 (plD g)))))) = true
  rw [h1, h2, h3, h4]
  rfl
theorem ok_pl (g : Nat) : TxOk (plD g) := by constructor <;> (simp only []; decide)
theorem pl_len (g : Nat) : (wriL (plD g) z32 z32).length = 195 := by
  unfold wriL bodL prL
  simp only [List.length_append, be8_l, hd4_len (t := plD g) (L0 := z32) (L1 := z32) rfl rfl, ptL_len]
  rfl
theorem bods_pl {g : Nat} {w : World} {base : Nat} (h : Row w g (u8s z32) 5) : Bods (plD g) z32 z32 w.heap.size w :=
  have s : SlI w.heap.size w (some ⟨g, 0, none⟩) 32 z32 := ⟨Nat.le_refl _, by decide, (fun h => by cases h), fun _ => ⟨g, 0, rfl, h.lt, h.bl⟩⟩
  ⟨rfl, rfl, s, s⟩
/-- Nothing is no transaction. -/
theorem rdc_nil {t : TxD} {M0 M1 : List Nat} {z : Obol.Rs} (h : RdC [] t M0 M1 z) : z.1 = true := by
  cases hz : z.1 with
  | true => rfl
  | false =>
    have := rdc_read h (fun i => by simp) hz
    have h2 := congrArg List.length this
    rw [wriL_flat] at h2
    simp only [List.length_append, be8_l, List.length_nil] at h2
    omega
/-- A transaction that may be, of 195 bytes. -/
theorem lPlainI (w : World) : Calls Tryz.prog 18 #[] w fun e w' => ∃ u : TxD, e = .returned (.agg (txC u)) ∧ TxOk u ∧ mayB u = true ∧ Bods u z32 z32 w'.heap.size w' ∧ (wriL u z32 z32).length = 195 ∧ Below w.heap.size w w' := by
  refine (lPlain w).mono ?_
  rintro e w1 ⟨g, he, _, hR, hb⟩
  exact ⟨plD g, he, ok_pl g, may_pl g, bods_pl (base := 0) hR, pl_len g, hb⟩
set_option maxRecDepth 100000 in
set_option maxHeartbeats 4000000 in
theorem up19 (w : World) : Calls Tryz.prog 5 #[] w fun e w' => e = .returned (.bool true) ∧ Below w.heap.size w w' := by
  have undT := Tryz.underlying37
  go_enter Tryz.func5, Tryz.ntmps5
  go_wp2_with fail
  refine (lPlainI _).mono ?_
  rintro e w1 ⟨u, rfl, hk, hm, hB, hn, hb⟩
  have H1 := Lib.hid ((HR.refl w).next hb)
  have cW := tWrite u z32 z32 hk hm w1 hB
  clear hb hB hk hm
  go_wp2_with fail
  refine cW.mono ?_
  rintro e w2 ⟨v, rfl, hO, hb⟩
  have H2 := Lib.hid (H1.out.next hb)
  obtain ⟨a, c, rfl⟩ := own_any9 hO
  rw [hn]
  clear hb H1 cW hO hn
  go_wp2_with fail
  refine (tRead none 0 0 [] rfl (fun i => by simp) w2 ⟨Nat.le_refl _, by decide, fun _ => ⟨rfl, rfl⟩, fun h => by simp at h⟩).mono ?_
  rintro e w3 ⟨t, M0, M1, z, b5, br, g0, e0, g1, e1, z0, z1, hC, _, hb, _, _, _, _, _, _, _, _, rfl⟩
  have hX : rdRes t z = .tuple #[.agg zC, errV 3] := by unfold rdRes; rw [if_pos (.inl (rdc_nil hC))]
  rw [hX]
  have H3 := Lib.hid (H2.out.next hb)
  clear hX hb hC H2
  obtain ⟨Z, hZ⟩ : ∃ Z : Array Value, zC = Z := ⟨_, rfl⟩
  have hZs : Hid (Z.size = zC.size) := Lib.hid (by rw [hZ])
  have hZ1 : Z.all (·.oneCell') = true := by rw [← hZ]; exact oneZ
  have hZi : (Tryz.prog.info? 37).map (·.size) = some Z.size := by rw [← hZ]; exact sizTX
  have hth : (w3.alloc (.cells zC 37)).there w3.heap.size 0 Z.size := by rw [← hZ]; exact Row.newThere w3 zC 37
  rw [hZ]
  clear hZ
  have hE := fun W => eq19 W 3 3
  have hN := fun W => nilN19 W
  go_upto_region 3 with (refine wpList_store_mid rfl _ _ _ rfl w3.heap.size 0 Z rfl rfl hth hZi hZ1 ?_)
  have H4 := Lib.hid (H3.out.fill zC Z 37 hZs.out)
  clear hth H3 hZ1 hZi hZs
  generalize (w3.alloc (.cells zC 37)).setCells w3.heap.size 0 Z.toList = w4 at H4 ⊢
  generalize w3.heap.size = b4 at H4 ⊢
  go_wp2_with fail
  refine (lPlainI _).mono ?_
  rintro e w5 ⟨u', rfl, hk, hm, _, _, hb⟩
  have H5 := Lib.hid (H4.out.next hb)
  have cK := tCheck u' hk w5
  rw [hm] at cK
  clear hb hk hm H4
  go_wp2_with fail
  refine cK.mono ?_
  rintro e w6 ⟨rfl, hb⟩
  have H6 := Lib.hid (H5.out.next hb)
  clear hb H5 cK
  go_wp2_with fail
  go_ret
  exact ⟨by simp, H6.out.2⟩

end Go.Proofs.YtkfimfjjmdjbdaaGreatDoor
/- What the listed variable's reading gives the walks; and that the door's own heap meets it. -/
namespace Go.Proofs.YtkfimfjjmdjbdaaGreatDoor
open Go.ChangeShapes Go.WideShapes Go.ChangeAt Go.WideMaps Go.WideElems Go.RowKit

abbrev laidB : List (String × DataW Unit) := [("obol/blake.rows", Rows.laid_obol_blake_rows)]
theorem laid_is : (Rows.laid_obol_blake_rows : DataW Unit) = .agg (Obol.rowsL.map fun l => .agg (l.map fun (x : Nat) => .lit (.int .i64 (x : Int)))) := rfl
theorem gRows : Tryz.prog.globalNamed "obol/blake.rows" = some 0 := by kernel_rfl
theorem tRows : (Tryz.prog.globals[0]?).map (·.type) = some 137 := by kernel_rfl
theorem c160 : Tryz.prog.cellsOf 137 = 160 := by kernel_rfl
theorem c16 : Tryz.prog.cellsOf 136 = 16 := by kernel_rfl
theorem cInt1 : Tryz.prog.cellsOf 3 = 1 := by kernel_rfl

theorem rows_of_laid {W : World} (h : laidMetH Tryz.prog laidB W) : RowsAt W := by
  rw [MakeChecks.laidMetH_plain _ _ _ (by kernel_rfl)] at h
  obtain ⟨ps, ⟨g0, t0, cs0, f0, p0, q0, hg0, ht0, hv0, hd0, _, _⟩, _, _⟩ := h
  obtain rfl := Option.some.inj (gRows.symm.trans hg0)
  obtain rfl := Option.some.inj (tRows.symm.trans ht0)
  obtain ⟨xs, m, _, hx, hlen, hn, hel⟩ := DataW.trod_array Tryz.underlying137 hd0
  rw [laid_is] at hx
  simp only [Prod.mk.injEq, DataW.agg.injEq] at hx
  have hx1 := hx.1
  have main : ∀ i k : Nat, i < 10 → k < 16 → W.cell? ⟨0, i * 16 + k, none⟩ = some (.int .i64 ((Obol.rowAt i k : Nat) : Int)) := by
    intro i k hi hk
    have hrl : Obol.rowsL.length = 10 := rfl
    have hi2 : i < xs.length := by omega
    have h1 := hel i hi
    rw [List.getElem?_eq_getElem hi2] at h1
    have e1 : (xs[i]).1 = .agg ((Obol.rowsL.getD i []).map fun (x : Nat) => .lit (.int .i64 (x : Int))) := by
      have := congrArg (·[i]?) hx1
      simp only [List.getElem?_map] at this
      rw [List.getElem?_eq_getElem hi2, List.getElem?_eq_getElem (by omega : i < Obol.rowsL.length)] at this
      rw [List.getD_eq_getElem?_getD, List.getElem?_eq_getElem (by omega : i < Obol.rowsL.length)]
      simpa using this.symm
    obtain ⟨ys, m2, _, hy, hlen2, hn2, hel2⟩ := DataW.trod_array Tryz.underlying136 h1
    have hy1 : (xs[i]).1 = .agg (ys.map (·.1)) := by rw [hy]
    rw [e1, DataW.agg.injEq] at hy1
    have hk2 : k < ys.length := by omega
    have h2 := hel2 k hk
    rw [List.getElem?_eq_getElem hk2, cInt1] at h2
    have hl16 : (Obol.rowsL.getD i []).length = 16 := by
      have := congrArg List.length hy1
      simp only [List.length_map] at this
      omega
    have e2 : (ys[k]).1 = .lit (.int .i64 ((Obol.rowAt i k : Nat) : Int)) := by
      have := congrArg (·[k]?) hy1
      simp only [List.getElem?_map] at this
      rw [List.getElem?_eq_getElem hk2, List.getElem?_eq_getElem (by omega : k < (Obol.rowsL.getD i []).length)] at this
      unfold Obol.rowAt
      rw [List.getD_eq_getElem?_getD (l := Obol.rowsL.getD i []), List.getElem?_eq_getElem (by omega : k < (Obol.rowsL.getD i []).length)]
      simpa using this.symm
    obtain ⟨r, e3, e4, _⟩ := DataW.trod_int Tryz.underlying3 h2
    have e5 : (ys[k]).1 = .lit (.int .i64 r) := by rw [e4]
    rw [e2] at e5
    have hr : r = ((Obol.rowAt i k : Nat) : Int) := by
      have := DataW.lit.inj e5
      simpa using this.symm
    rw [World.var?_cell hg0 hv0 (i * 16 + k)]
    rw [c16, Nat.mul_one] at e3
    have h6 := congrArg (·[0]?) e3
    simp only [List.getElem?_take, List.getElem?_drop, List.getElem?_cons_zero] at h6
    rw [if_pos (by omega), if_pos (by omega), Nat.add_zero, Array.getElem?_toList] at h6
    rw [h6, hr]
  exact ⟨World.block_lt_of_cell? W ⟨0, 0 * 16 + 0, none⟩ (main 0 0 (by decide) (by decide)), main⟩

/-- The door's own heap meets the condition. -/
theorem door_met (os : Os) (args : Array Value) : laidMetH Tryz.prog laidB ((World.doorLaid Tryz.prog 400 os).forCall (fun _ _ => 0) ⟨#[], args, []⟩).memory :=
  laidMetH_of_parts3 (fuel := 8) (laidMet_of_run' 8 (by kernel_rfl) (by kernel_rfl)) (by kernel_rfl) (by kernel_rfl)

end Go.Proofs.YtkfimfjjmdjbdaaGreatDoor
/- Walks: package tx: what Read answers, told for the laws. -/
namespace Go.Proofs.YtkfimfjjmdjbdaaGreatDoor
open Go.RowKit
set_option linter.unusedVariables false

theorem OwF.sl {g e : Nat} {z : Array Value} {M : List Nat} {b5 br base : Nat} {W : World} (h : OwF g e z M b5 br) (hR : Row W g z 5) (hb : g < base) : SlI base W (some ⟨g, 0, none⟩) e M :=
  ⟨by rw [h.len]; exact h.le, by have := h.cap; unfold maxLen at this; omega, (fun h => by cases h), fun _ => ⟨g, 0, rfl, hb, fun i hi => by
    rw [Nat.zero_add]
    refine hR.cell i ?_
    have hi2 : i < 32 := by rw [← h.len]; exact hi
    have e1 : z[i]? = (z.toList.take 32)[i]? := by rw [List.getElem?_take, if_pos hi2, Array.getElem?_toList]
    rw [e1, h.take]
    simp only [List.getElem?_map, List.getElem?_eq_getElem hi, List.getD_eq_getElem?_getD]
    rfl⟩⟩
/-- The three answers. -/
def RdE (t : TxD) (z : Obol.Rs) (Z : Array Value) (E : Value) : Prop :=
  ((z.1 = true ∨ mayB t = false) ∧ Z = zC ∧ E = errV 3) ∨ (z.1 = false ∧ mayB t = true ∧ 0 < z.2.length ∧ Z = zC ∧ E = errV 4) ∨ (z.1 = false ∧ mayB t = true ∧ z.2 = [] ∧ Z = txC t ∧ E = .nilIface)
theorem RdE.of (t : TxD) (z : Obol.Rs) : ∃ Z E, rdRes t z = .tuple #[.agg Z, E] ∧ RdE t z Z E := by
  unfold rdRes
  by_cases h : z.1 = true ∨ mayB t = false
  · rw [if_pos h]
    exact ⟨_, _, rfl, .inl ⟨h, rfl, rfl⟩⟩
  · rw [if_neg h]
    have h1 : z.1 = false := by
      cases hz : z.1 with
      | true => exact (h (.inl hz)).elim
      | false => rfl
    have h2 : mayB t = true := by
      cases hm : mayB t with
      | true => rfl
      | false => exact (h (.inr hm)).elim
    by_cases hl : 0 < z.2.length
    · rw [if_pos hl]
      exact ⟨_, _, rfl, .inr (.inl ⟨h1, h2, hl, rfl, rfl⟩)⟩
    · rw [if_neg hl]
      exact ⟨_, _, rfl, .inr (.inr ⟨h1, h2, List.eq_nil_of_length_eq_zero (by omega), rfl, rfl⟩)⟩
theorem RdE.size {t : TxD} {z : Obol.Rs} {Z : Array Value} {E : Value} (h : RdE t z Z E) : Z.size = zC.size ∧ Z.all (·.oneCell') = true ∧ (Tryz.prog.info? 37).map (·.size) = some Z.size := by
  rcases h with ⟨_, rfl, _⟩ | ⟨_, _, _, rfl, _⟩ | ⟨_, _, _, rfl, _⟩
  · exact ⟨rfl, oneZ, sizTX⟩
  · exact ⟨rfl, oneZ, sizTX⟩
  · exact ⟨rfl, oneTx t, sizTX⟩
structure RdB (base : Nat) (t : TxD) (M0 M1 : List Nat) (g0 g1 : Nat) (z0 z1 : Array Value) : Prop where
  s0 : t.s0 = some ⟨g0, 0, none⟩
  s1 : t.s1 = some ⟨g1, 0, none⟩
  l0 : t.l0 = 32
  l1 : t.l1 = 32
  m0 : M0.length = 32
  m1 : M1.length = 32
  b0 : base ≤ g0
  b1 : base ≤ g1
  k0 : ∀ (W : World) (B : Nat), Row W g0 z0 5 → g0 < B → SlI B W t.s0 t.c0 M0
  k1 : ∀ (W : World) (B : Nat), Row W g1 z1 5 → g1 < B → SlI B W t.s1 t.c1 M1
theorem RdB.bods {base : Nat} {t : TxD} {M0 M1 : List Nat} {g0 g1 : Nat} {z0 z1 : Array Value} (h : RdB base t M0 M1 g0 g1 z0 z1) {W : World} (h0 : Row W g0 z0 5) (h1 : Row W g1 z1 5) : Bods t M0 M1 W.heap.size W :=
  ⟨h.m0.trans h.l0.symm, h.m1.trans h.l1.symm, h.k0 W _ h0 h0.lt, h.k1 W _ h1 h1.lt⟩
/-- What Read leaves. -/
def RdO (L : List Nat) (w : World) (e : Ending) (w' : World) : Prop := ∃ (Z : Array Value) (E : Value) (t : TxD) (M0 M1 : List Nat) (z : Obol.Rs) (g0 g1 : Nat) (z0 z1 : Array Value),
  e = .returned (.tuple #[.agg Z, E]) ∧ RdC L t M0 M1 z ∧ TxOk t ∧ RdB w.heap.size t M0 M1 g0 g1 z0 z1 ∧ RdE t z Z E ∧ Row w' g0 z0 5 ∧ Row w' g1 z1 5 ∧ Below w.heap.size w w'
theorem tReadO (ao : Option Addr) (n c : Nat) (L : List Nat) (hn : L.length = n) (hb : ∀ i, L.getD i 0 < 256) (w : World) (hS : SlI w.heap.size w ao c L) : Calls Tryz.prog 19 #[.slice ao n c] w (RdO L w) := by
  refine (tRead ao n c L hn hb w hS).mono ?_
  rintro e w' ⟨t, M0, M1, z, b5, br, g0, e0, g1, e1, z0, z1, hC, hk, hB, ⟨p0, q0, rfl⟩, ⟨p1, q1, rfl⟩, o0, o1, hbr, _, r0, r1, rfl⟩
  obtain ⟨Z, E, h1, h2⟩ := RdE.of t z
  rw [h1]
  exact ⟨Z, E, t, M0, M1, z, g0, g1, z0, z1, rfl, hC, hk, ⟨p0, p1, q0, q1, o0.len, o1.len, by have := o0.nr; omega, by have := o1.nr; omega, fun W B hR hl => by rw [p0]; exact o0.sl hR hl, fun W B hR hl => by rw [p1]; exact o1.sl hR hl⟩, h2, r0, r1, hB⟩
/-- The same bytes are read alike. -/
theorem RdC.det {L : List Nat} {t u : TxD} {M0 M1 K0 K1 : List Nat} {z y : Obol.Rs} (h : RdC L t M0 M1 z) (g : RdC L u K0 K1 y) : Alike t u ∧ M0 = K0 ∧ M1 = K1 ∧ z = y := by
  obtain ⟨s0, s1, s2, s3, s4, s5, s6, s7, s8, s9, s10, s11, s12, s13, s14, s15, s16, s17, s18, s19, rfl, rfl, rfl, rfl, rfl, rfl, rfl, rfl, rfl, rfl, rfl, rfl, rfl, rfl, rfl, rfl, rfl, rfl, rfl, rfl, rfl, rfl, rfl, v_root, v_inn, v_out, v_fx, v_fy, v_tx, v_ty, v_seq, v_e0, v_e1, v_m0, v_m1, v_n0x, v_n0y, v_n1x, v_n1y, v_a0, v_a1, v_ia, v_xa, v_ya, v_ib, v_xb, v_yb, v_ic, v_xc, v_yc, v_gx, v_gy, v_gz⟩ := h
  obtain ⟨r0, r1, r2, r3, r4, r5, r6, r7, r8, r9, r10, r11, r12, r13, r14, r15, r16, r17, r18, r19, rfl, rfl, rfl, rfl, rfl, rfl, rfl, rfl, rfl, rfl, rfl, rfl, rfl, rfl, rfl, rfl, rfl, rfl, rfl, rfl, rfl, rfl, rfl, u_root, u_inn, u_out, u_fx, u_fy, u_tx, u_ty, u_seq, u_e0, u_e1, u_m0, u_m1, u_n0x, u_n0y, u_n1x, u_n1y, u_a0, u_a1, u_ia, u_xa, u_ya, u_ib, u_xb, u_yb, u_ic, u_xc, u_yc, u_gx, u_gy, u_gz⟩ := g
  exact ⟨⟨v_root.symm.trans u_root, v_inn.symm.trans u_inn, v_out.symm.trans u_out, v_fx.symm.trans u_fx, v_fy.symm.trans u_fy, v_tx.symm.trans u_tx, v_ty.symm.trans u_ty, v_seq.symm.trans u_seq, v_e0.symm.trans u_e0, v_e1.symm.trans u_e1, v_m0.symm.trans u_m0, v_m1.symm.trans u_m1, v_n0x.symm.trans u_n0x, v_n0y.symm.trans u_n0y, v_n1x.symm.trans u_n1x, v_n1y.symm.trans u_n1y, v_a0.symm.trans u_a0, v_a1.symm.trans u_a1, v_ia.symm.trans u_ia, v_xa.symm.trans u_xa, v_ya.symm.trans u_ya, v_ib.symm.trans u_ib, v_xb.symm.trans u_xb, v_yb.symm.trans u_yb, v_ic.symm.trans u_ic, v_xc.symm.trans u_xc, v_yc.symm.trans u_yc, v_gx.symm.trans u_gx, v_gy.symm.trans u_gy, v_gz.symm.trans u_gz⟩, rfl, rfl, rfl⟩
/-- A byte less isn't read. -/
theorem RdC.less {L : List Nat} {t u v : TxD} {L0 L1 M0 M1 K0 K1 : List Nat} {z y : Obol.Rs} (hL : L = wriL t L0 L1) (ht : TxOk t) (hm : MayI t) (n0 : L0.length = 32) (n1 : L1.length = 32) (h : RdC L u M0 M1 z)
    (hb : ∀ i, L.getD i 0 < 256) (n : Nat) (hn : n < L.length) (g : RdC (L.take n) v K0 K1 y) (hv : TxOk v) (k0 : K0.length = 32) (k1 : K1.length = 32) : y.1 = true ∨ mayB v = false := by
  cases hy : y.1 with
  | true => exact .inl rfl
  | false =>
    refine .inr ?_
    cases hmv : mayB v with
    | false => rfl
    | true =>
      have e := rdc_read g (fun i => by
        rw [List.getD_eq_getElem?_getD, List.getElem?_take]
        split
        · have := hb i; rwa [List.getD_eq_getElem?_getD] at this
        · simp) hy
      have e2 : L = wriL v K0 K1 ++ (y.2 ++ L.drop n) := by rw [← List.append_assoc, ← e, List.take_append_drop]
      have a := (rdc_back (r := []) (by rw [List.append_nil]; exact hL) ht hm n0 n1 h).2.2.2
      have b := (rdc_back e2 hv (MayI.of hmv) k0 k1 h).2.2.2
      rw [a] at b
      have c := congrArg (fun s => s.2.length) b
      simp only [List.length_append, List.length_drop, List.length_nil] at c
      omega

end Go.Proofs.YtkfimfjjmdjbdaaGreatDoor
/- Walks: the reference of layer 19: two transactions that are alike are the same. -/
namespace Go.Proofs.YtkfimfjjmdjbdaaGreatDoor
open Go.RowKit
set_option linter.unusedVariables false
set_option linter.unusedSimpArgs false

abbrev likeD (a : TxD) (p0 : Option Addr) (n0 q0 : Nat) (p1 : Option Addr) (n1 q1 : Nat) : TxD := { a with s0 := p0, l0 := n0, c0 := q0, s1 := p1, l1 := n1, c1 := q1 }
theorem Alike.eq {t u : TxD} (h : Alike t u) : t = likeD u t.s0 t.l0 t.c0 t.s1 t.l1 t.c1 := by
 cases t
 cases u
 unfold Alike at h
 simp only [TxD.mk.injEq, true_and, and_true] at h ⊢
 simp only [h, and_self]
theorem Alike.symm {t u : TxD} (h : Alike t u) : Alike u t := by
 unfold Alike at h ⊢
 simp only [h, and_self]
theorem Alike.trans {t u v : TxD} (h : Alike t u) (g : Alike u v) : Alike t v := by
 unfold Alike at h g ⊢
 simp only [h, g, and_self]
theorem Alike.refl (t : TxD) : Alike t t := by unfold Alike; simp only [and_self]
theorem SlI.convN {base : Nat} {w : World} {ao : Option Addr} {n cap : Nat} {L : List Nat} (h : SlI base w ao cap L) (hn : L.length = n) : (convert 26 9 (.slice ao n cap)).run Tryz.prog w = .ok (.string (strB L)) w := by
 subst hn
 exact h.conv9
theorem eqPr (ia : Bool) (xa ya : Int) (ib : Bool) (xb yb : Int) (ic : Bool) (xc yc : Int) (W : World) : (binOp .eql 33 (.agg #[.bool ia, .int .u64 xa, .int .u64 ya, .bool ib, .int .u64 xb, .int .u64 yb, .bool ic, .int .u64 xc, .int .u64 yc]) (.agg #[.bool ia, .int .u64 xa, .int .u64 ya, .bool ib, .int .u64 xb, .int .u64 yb, .bool ic, .int .u64 xc, .int .u64 yc])).run Tryz.prog W = .ok (.bool true) W := by
 go_simp
theorem wpList_loadm_on {P : Program} {ops : Array Oper} {rest : List Oper} {o : Oper} {a : Act} {w : World} {Q : Exit → Act → World → Prop} (hw : Region.wanted o (yielded ops a.tmps) = true) (ty : TypeId) (x : Operand) (ho : o.op = .load ty x)
  (b k : Nat) (hx : a.eval x = .pointer (some ⟨b, k, none⟩)) (cs : List Value) (d : TypeDesc) (hr : w.rangeAt b k cs) (hu : P.underlying ty = some d) (hd : d.isRow = true) (hi : (P.info? ty).map (·.size) = some cs.length)
  (h : wpList P ops Q rest (a.put o.dst (.agg cs.toArray)) w) : wpList P ops Q (o :: rest) a w :=
 wpList_on hw fun _ hK => by
  unfold Oper.wp execOp
  simp only [ho, hx, Instr.loadAt, Instr.sureAddr, Sem.run_bind, Sem.run_pure, Result.andThen_ok, run_loadVar_mid w b k ty cs d hr hu hd hi]
  exact hK _ _ h
theorem Row.part {w : World} {b : Nat} {cs : Array Value} {t : TypeId} (h : Row w b cs t) (o : Nat) (vs : List Value) (hv : ∀ j v, vs[j]? = some v → cs[o + j]? = some v) : w.rangeAt b o vs := fun j v hj => h.cell (o + j) (hv j v hj)
end Go.Proofs.YtkfimfjjmdjbdaaGreatDoor
/- Walks: the law TxBack. -/
namespace Go.Proofs.YtkfimfjjmdjbdaaGreatDoor
open Go.RowKit
set_option linter.unusedVariables false
set_option linter.unusedSimpArgs false

set_option maxRecDepth 100000 in
theorem neN19 (W : World) : (binOp .neq 41 .nilIface .nilIface).run Tryz.prog W = .ok (.bool false) W := by
 first | rfl | simp [binOp]
set_option maxRecDepth 100000 in
theorem neE19 (W : World) (a : Int) : (binOp .neq 41 (.iface 50 (.int .i64 a)) .nilIface).run Tryz.prog W = .ok (.bool true) W := by
 first | rfl | simp [binOp]
theorem slice_hi (b len c n : Nat) (h : n ≤ c) (W : World) : (Instr.slice 26 (.slice (some ⟨b, 0, none⟩) len c) none (some (.int .i64 (n : Int))) none).run Tryz.prog W = .ok (.slice (some ⟨b, 0, none⟩) n c) W := by
 have e2 : Tryz.prog.elem 26 = 5 := by simp [Program.elem, Tryz.underlying26]
 obtain ⟨i, hi, _, hs, _⟩ := info_parts info8
 rw [run_slice_h W 26 _ _ _ (by rw [e2]; exact Tryz.underlying26) .i64 n (by omega) (by omega), e2]
 simp [Go.sizeOf, typeInfo, hi, hs, Result.andThen, sliced]
 intro _
 simp [addB]
theorem RdE.good {t : TxD} {z : Obol.Rs} {Z : Array Value} {E : Value} (h : RdE t z Z E) (hm : mayB t = true) (hz : z = (false, [])) : Z = txC t ∧ E = .nilIface := by
 subst hz
 rcases h with ⟨h | h, _, _⟩ | ⟨_, _, h, _, _⟩ | ⟨_, _, _, h1, h2⟩
 ·cases h
 ·rw [hm] at h; cases h
 ·simp at h
 ·exact ⟨h1, h2⟩
theorem RdE.more {t : TxD} {z : Obol.Rs} {Z : Array Value} {E : Value} {x : Nat} (h : RdE t z Z E) (hm : mayB t = true) (hz : z = (false, [x])) : E = errV 4 := by
 subst hz
 rcases h with ⟨h | h, _, _⟩ | ⟨_, _, _, _, h2⟩ | ⟨_, _, h, _, _⟩
 ·cases h
 ·rw [hm] at h; cases h
 ·exact h2
 ·simp at h
theorem RdE.less {t : TxD} {z : Obol.Rs} {Z : Array Value} {E : Value} (h : RdE t z Z E) (hm : z.1 = true ∨ mayB t = false) : E = errV 3 := by
 rcases h with ⟨_, _, h2⟩ | ⟨h1, h3, _, _, _⟩ | ⟨h1, h3, _, _, _⟩
 ·exact h2
 ·rcases hm with h | h
  ·rw [h] at h1; cases h1
  ·rw [h] at h3; cases h3
 ·rcases hm with h | h
  ·rw [h] at h1; cases h1
  ·rw [h] at h3; cases h3
theorem gd_lt {L : List Nat} (h : ∀ x ∈ L, x < 256) (i : Nat) : L.getD i 0 < 256 := by
 rw [List.getD_eq_getElem?_getD]
 cases hi : L[i]? with
 | none => simp
 | some x => exact h x (List.mem_of_getElem? hi)
theorem ptL_lt (i : Bool) (x y : Nat) : ∀ z ∈ Obol.ptL i x y, z < 256 := by
 unfold Obol.ptL
 cases i
 ·intro z hz
  rw [if_neg (by simp)] at hz
  rcases List.mem_cons.1 hz with rfl | hz
  ·decide
  ·rcases List.mem_append.1 hz with hz | hz
   ·exact Obol.be_lt _ z hz
   ·exact Obol.be_lt _ z hz
 ·intro z hz
  rw [if_pos rfl] at hz
  simp at hz
  omega
theorem app_lt {A B : List Nat} (ha : ∀ x ∈ A, x < 256) (hb : ∀ x ∈ B, x < 256) : ∀ x ∈ A ++ B, x < 256 := fun x hx => (List.mem_append.1 hx).elim (ha x) (hb x)
theorem wri_lt (t : TxD) {L0 L1 : List Nat} (h0 : ∀ x ∈ L0, x < 256) (h1 : ∀ x ∈ L1, x < 256) : ∀ x ∈ wriL t L0 L1, x < 256 := by
 have e := wriL_flat t L0 L1 []
 rw [List.append_nil] at e
 rw [e]
 repeat' (first | exact Obol.be_lt _ | exact h0 | exact h1 | exact ptL_lt _ _ _ | exact (fun x hx => (List.not_mem_nil hx).elim) | apply app_lt)
theorem wri_pos (t : TxD) (L0 L1 : List Nat) : 8 ≤ (wriL t L0 L1).length := by
 unfold wriL
 rw [List.length_append, be8_l]
 omega
theorem wri_le (t : TxD) {L0 L1 : List Nat} (h0 : L0.length = 32) (h1 : L1.length = 32) : (wriL t L0 L1).length ≤ 300 := by
 have := bodL_len t h0 h1
 unfold wriL
 simp only [List.length_append, be8_l]
 omega
theorem B8.mem {n : Nat} {L : List Nat} (h : B8 n L) : ∀ x ∈ L, x < 256 := Obol.mem_lt h.lt
theorem newsB9 (w : World) (m : Int) (m0 : 0 ≤ m) : ∀ j, j < [m.toNat].length → (w.alloc (.cells #[.int .u8 m] 5)).cell? ((⟨w.heap.size, 0, none⟩ : Addr).add j) = some (.int .u8 (([m.toNat].getD j 0 : Nat) : Int)) := fun j hj => by
 obtain rfl : j = 0 := by simp at hj; omega
 rw [addB]
 have := (show Row (w.alloc (.cells #[.int .u8 m] 5)) w.heap.size #[.int .u8 m] 5 from Row.new _ _ _).cell 0 rfl
 rw [this]
 simp
 omega
end Go.Proofs.YtkfimfjjmdjbdaaGreatDoor
/- Walks: package blake: the number of a digest. -/
namespace Obol
/-- The first eight bytes' number, the lowest first. -/
def numL (b : List Nat) : Nat := wordAt b 0 + 4294967296 * wordAt b 4
end Obol
namespace Go.Proofs.YtkfimfjjmdjbdaaGreatDoor
open Go.RowKit

/-- What an error value of package api is. -/
abbrev errC (k : Int) : Value := .iface 50 (.int .i64 k)

theorem or_32 {p q : Int} (p0 : 0 ≤ p) (p1 : p < 4294967296) (q0 : 0 ≤ q) (q1 : q < 4294967296) : bits .or .u64 p (q * 4294967296) = p + 4294967296 * q := by
 obtain ⟨P, rfl⟩ := Int.eq_ofNat_of_zero_le p0
 obtain ⟨Q, rfl⟩ := Int.eq_ofNat_of_zero_le q0
 have h := Nat.two_pow_add_eq_or_of_lt (i := 32) (b := P) (by omega) Q
 have e : ((Q : Int) * 4294967296) = ((2 ^ 32 * Q : Nat) : Int) := by simp; omega
 rw [e, u64_or_nat _ _ (by omega) (by omega), Nat.or_comm, ← h]
 simp
 omega

theorem bNumber (s : ByteArray) (hs : s.size ≤ 8) (ao : Option Addr) (len cap : Nat) (L : List Nat) (H : B8 len L) (m : Int) (m0 : 0 < m) (m1 : m ≤ 18446744073709551615) (w : World) (hS : SlI w.heap.size w ao cap L) (hG : RowsAt w) :
  Calls Tryz.prog 22 #[.string s, .slice ao len cap, .int .u64 m] w fun e w' => e = .returned (.tuple #[.int .u64 (((Obol.numL (Obol.sumL (strL s) L) : Nat) : Int) % m), .nilIface]) ∧ Below w.heap.size w w' := by
 have cS := Lib.hid (bSum2 s hs ao len cap L H w hS hG)
 have hD := sumL_b8 (strL s) L (strL_lt s)
 generalize Obol.sumL (strL s) L = D at cS hD
 obtain ⟨x, hx⟩ : ∃ z : Int, ((Obol.wordAt D 0 : Nat) : Int) = z := ⟨_, rfl⟩
 obtain ⟨y, hy⟩ : ∃ z : Int, ((Obol.wordAt D 4 : Nat) : Int) = z := ⟨_, rfl⟩
 have lx := Obol.wordAt_lt D hD.lt 0
 have ly := Obol.wordAt_lt D hD.lt 4
 have x0 : 0 ≤ x := by omega
 have y0 : 0 ≤ y := by omega
 have x1 : x < 4294967296 := by omega
 have y1 : y < 4294967296 := by omega
 have hor := or_32 x0 x1 y0 y1
 have ht : (x + 4294967296 * y).tmod m = (x + 4294967296 * y) % m := Int.tmod_eq_emod_of_nonneg (by omega)
 have hN : Hid (((Obol.numL D : Nat) : Int) = x + 4294967296 * y) := Lib.hid (by unfold Obol.numL; omega)
 have hm0 : (m == 0) = false := beq_eq_false_iff_ne.2 (by omega)
 go_enter Tryz.func22, Tryz.ntmps22
 go_wp2_with fail
 refine cS.out.mono ?_
 rintro e w1 ⟨g, cap2, rfl, hg, hO, hb⟩
 have hB := Lib.hid hb
 have bl := (hD.len ▸ hO : OwnB w1 _ (.slice (some ⟨g, 0, none⟩) D.length cap2) D).bl
 have hcap : (32 : Nat) ≤ cap2 := by
  rcases hO.2 with ⟨h, _⟩ | ⟨g', cap', cur, h1, _, _, h4, _⟩
  ·cases h
  ·simp only [Value.slice.injEq] at h1
   obtain ⟨_, _, rfl⟩ := h1
   rw [hD.len] at h4
   exact h4
 have c0 := fun n => bWordAt g 0 0 0 32 cap2 D 32 hD rfl (by omega) (by omega) (by omega) (w1.drewN n) (fun i hi => bl i hi)
 have c4 := fun n => bWordAt g 0 4 4 28 (cap2 - 4) D 32 hD rfl (by omega) (by omega) (by omega) (w1.drewN n) (fun i hi => bl i hi)
 rw [hx] at c0
 rw [hy] at c4
 clear hb hO bl hx hy lx ly hD
 have hsl := fun W => slice_rest (P := Tryz.prog) 26 5 Tryz.underlying26 info8 g 0 32 cap2 4 (by omega) hcap W
 rw [if_neg (by omega), Nat.zero_add] at hsl
 have hsl' : ∀ W, (Instr.slice 26 (.slice (some ⟨g, 0, none⟩) 32 cap2) (some (.int .i64 4)) none none).run Tryz.prog W = .ok (.slice (some ⟨g, 4, none⟩) 28 (cap2 - 4)) W := hsl
 replace c0 := Lib.hid c0
 replace c4 := Lib.hid c4
 clear hsl
 go_wp2_with fail
 go_quiet (first
  | (go_at_call_of 51 (Value.slice (some (⟨g, 0, none⟩ : Addr)) 32 cap2); first | (refine Calls.quiet_of (c0.out _)) | (refine quiet_add (c0.out _)))
  | (go_at_call 51; first | (refine Calls.quiet_of (c4.out _)) | (refine quiet_add (c4.out _))))
 go_wp2
 go_ret2
 refine ⟨?_, bDrewN hB.out _⟩
 rw [hN.out]
 rfl

end Go.Proofs.YtkfimfjjmdjbdaaGreatDoor
