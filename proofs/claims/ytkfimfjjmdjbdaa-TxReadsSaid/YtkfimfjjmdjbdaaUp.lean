import Derived.Test.YtkfimfjjmdjbdaaUo
import Derived.Test.YtkfimfjjmdjbdaaUi
import Derived.Lib.IfaceEq
import Derived.Test.YtkfimfjjmdjbdaaUc
import Derived.Test.YtkfimfjjmdjbdaaUe
import Derived.Test.YtkfimfjjmdjbdaaUb
set_option linter.unusedVariables false
set_option linter.unusedSimpArgs false
set_option linter.unusedSectionVars false
/- What the statements of layer 19 share: the cells of a transaction, as one name. -/
namespace Go.Proofs.Ytkfimfjjmdjbdaa
open Go.RowKit
set_option linter.unusedVariables false
set_option linter.unusedSimpArgs false

theorem oneTx (t : TxD) : (txC t).all (·.oneCell') = true := by simp [Value.oneCell']
theorem HR.fill {w w1 : World} {rs : List (Nat × Array Value × TypeId)} (h : HR w w1 rs) (zs cs : Array Value) (t : TypeId) (hs : cs.size = zs.size) : HR w ((w1.alloc (.cells zs t)).setCells w1.heap.size 0 cs.toList) ((w1.heap.size, cs, t) :: rs) := by
  have hn := h.new zs t
  exact HR.add (HR.otherMany (fun r hr => Nat.ne_of_lt (HR.lt h (b := r.1) (cs := r.2.1) (t := r.2.2) hr)) h.2.size _ 0 _ hn.tail) ((hn.row (List.mem_cons_self ..)).store cs hs)
theorem Row.newThere (w : World) (cs : Array Value) (t : TypeId) : (w.alloc (.cells cs t)).there w.heap.size 0 cs.size := Row.there (Row.new w cs t)
theorem eq19 (W : World) (a b : Int) : (binOp .eql 41 (.iface 45 (.int .i64 a)) (.iface 45 (.int .i64 b))).run Try.prog W = .ok (.bool (a == b)) W :=
  Lib.run_eql_iface_int W a b Try.underlying41 (by kernel_rfl) Try.underlying45
set_option maxRecDepth 100000 in
theorem eqN19 (W : World) (a : Int) : (binOp .eql 41 (.iface 45 (.int .i64 a)) .nilIface).run Try.prog W = .ok (.bool false) W := by
  first | rfl | simp [binOp]
set_option maxRecDepth 100000 in
theorem nilN19 (W : World) : (binOp .eql 41 .nilIface .nilIface).run Try.prog W = .ok (.bool true) W := by
  first | rfl | simp [binOp]
set_option maxRecDepth 100000 in
theorem nilE19 (W : World) (a : Int) : (binOp .eql 41 .nilIface (.iface 45 (.int .i64 a))).run Try.prog W = .ok (.bool false) W := by
  first | rfl | simp [binOp]
theorem SlI.arg9 {base : Nat} {w : World} {ao : Option Addr} {cap : Nat} {E : List Nat} (h : SlI base w ao cap E) : (ao = none → E.length = 0 ∧ cap = 0) ∧ (0 < E.length → ∃ b o, ao = some ⟨b, o, none⟩ ∧ BL w b o E) :=
  ⟨h.no, fun h0 => by
    obtain ⟨b, o, h1, _, h3⟩ := h.bl h0
    exact ⟨b, o, h1, h3⟩⟩
theorem own_any9 {w : World} {base : Nat} {v : Value} {L : List Nat} (h : OwnB w base v L) : ∃ a c, v = .slice a L.length c := by
  rcases h.2 with ⟨rfl, h0⟩ | ⟨g, cap, cur, h1, _⟩
  · exact ⟨none, 0, by rw [show L.length = 0 by omega]⟩
  · exact ⟨_, _, h1⟩
theorem OwnB.sl9 {w : World} {base : Nat} {ao : Option Addr} {n cap : Nat} {L : List Nat} (h : OwnB w base (.slice ao n cap) L) : L.length = n ∧ SlI w.heap.size w ao cap L := by
  by_cases hv : Value.slice ao n cap = .slice none 0 0
  · simp only [Value.slice.injEq] at hv
    obtain ⟨rfl, rfl, rfl⟩ := hv
    have h0 : L.length = 0 := by
      rcases h.2 with ⟨_, h0⟩ | ⟨g', cap', cur, h1, _⟩
      · omega
      · cases h1
    exact ⟨h0, by omega, by omega, fun _ => ⟨h0, rfl⟩, fun h1 => by omega⟩
  · obtain ⟨g, cap', he⟩ := own_shape h hv
    simp only [Value.slice.injEq] at he
    obtain ⟨rfl, rfl, rfl⟩ := he
    have hc := own_cap h
    exact ⟨rfl, hc.1, hc.2, (fun h => by cases h), fun _ => ⟨g, 0, rfl, own_lt h, h.bl⟩⟩
theorem SlI.up9 {base base' : Nat} {w : World} {ao : Option Addr} {cap : Nat} {L : List Nat} (h : SlI base w ao cap L) (hb : base ≤ base') : SlI base' w ao cap L :=
  ⟨h.le, h.cap, h.no, fun h0 => by
    obtain ⟨b, o, h1, h2, h3⟩ := h.bl h0
    exact ⟨b, o, h1, by omega, h3⟩⟩
theorem SlI.next9 {w W : World} {ao : Option Addr} {cap : Nat} {L : List Nat} (h : SlI w.heap.size w ao cap L) (hb : Below w.heap.size w W) : SlI W.heap.size W ao cap L := (h.below hb).up9 hb.size
theorem SlI.conv9 {base : Nat} {w : World} {ao : Option Addr} {cap : Nat} {L : List Nat} (h : SlI base w ao cap L) : (convert 26 9 (.slice ao L.length cap)).run Try.prog w = .ok (.string (strB L)) w :=
  convAny rfl h.arg9.2
theorem own_conv9 {w : World} {base n c : Nat} {a : Option Addr} {L : List Nat} (h : OwnB w base (.slice a n c) L) : (convert 26 9 (.slice a n c)).run Try.prog w = .ok (.string (strB L)) w := by
  obtain ⟨h1, h2⟩ := OwnB.sl9 h
  subst h1
  exact convAny rfl h2.arg9.2
theorem slOf {w : World} {ao : Option Addr} {len cap : Nat} {L : List Nat} (H : B8 len L) (hl : len ≤ cap) (hc : cap ≤ 9223372036854775807) (hn : ao = none → len = 0 ∧ cap = 0) (hb : 0 < len → ∃ b o, ao = some ⟨b, o, none⟩ ∧ BL w b o L) : SlI w.heap.size w ao cap L :=
  ⟨by rw [H.len]; exact hl, hc, (fun h => by rw [H.len]; exact hn h), fun h => by
    rw [H.len] at h
    obtain ⟨b, o, h1, h2⟩ := hb h
    exact ⟨b, o, h1, h2.lt (by rw [H.len]; exact h), h2⟩⟩
set_option maxRecDepth 8000 in
/-- Are the bodies short? -/
theorem lLight (t : TxD) (w : World) : Calls Try.prog 8 #[txV t] w fun e w' => e = .returned (.bool (decide (t.l0 < 200) && decide (t.l1 < 200))) ∧ Below w.heap.size w w' := by
  go_enter Try.func8, Try.ntmps8
  go_upto_region 1 with fail
  have H1 := Lib.hid ((HR.refl w).new (txC t) 37)
  generalize w.alloc (.cells (txC t) 37) = w2 at H1 ⊢
  generalize w.heap.size = b1 at H1 ⊢
  have k0 := H1.out.cell (b := b1) (cs := txC t) (t := 37) (by simp) 14 rfl
  have k1 := H1.out.cell (b := b1) (cs := txC t) (t := 37) (by simp) 17 rfl
  by_cases h0 : t.l0 < 200
  · have i0 : (t.l0 : Int) < 200 := by omega
    by_cases h1 : t.l1 < 200
    · have i1 : (t.l1 : Int) < 200 := by omega
      have d0 := Lib.hid (decide_eq_true h0)
      have d1 := Lib.hid (decide_eq_true h1)
      clear h0 h1
      go_wp2_with fail
      go_ret
      exact ⟨by rw [d0.out, d1.out]; rfl, H1.out.2⟩
    · have i1 : ¬ (t.l1 : Int) < 200 := by omega
      have d0 := Lib.hid (decide_eq_true h0)
      have d1 := Lib.hid (decide_eq_false h1)
      clear h0 h1
      go_wp2_with fail
      go_ret
      exact ⟨by rw [d0.out, d1.out]; rfl, H1.out.2⟩
  · have i0 : ¬ (t.l0 : Int) < 200 := by omega
    have d0 := Lib.hid (decide_eq_false h0)
    clear h0
    go_wp2_with fail
    go_ret
    exact ⟨by rw [d0.out]; rfl, H1.out.2⟩

end Go.Proofs.Ytkfimfjjmdjbdaa
/- Walks: the statements of layer 19: their head. -/
namespace Go.Proofs.Ytkfimfjjmdjbdaa
open Go.RowKit
set_option linter.unusedVariables false

theorem sizED : (Try.prog.info? 24).map (·.size) = some 2 := by kernel_rfl
theorem sizPT : (Try.prog.info? 31).map (·.size) = some 3 := by kernel_rfl
theorem sizSG : (Try.prog.info? 35).map (·.size) = some 3 := by kernel_rfl
theorem sizSE : (Try.prog.info? 28).map (·.size) = some 3 := by kernel_rfl
theorem sizA2 : (Try.prog.info? 25).map (·.size) = some 2 := by kernel_rfl
theorem one2 (x y : Int) : (#[.int .u64 x, .int .u64 y] : Array Value).all (·.oneCell') = true := by simp [Value.oneCell']
theorem one3 (b : Bool) (x y : Int) : (#[.bool b, .int .u64 x, .int .u64 y] : Array Value).all (·.oneCell') = true := by simp [Value.oneCell']
theorem one3u (x y z : Int) : (#[.int .u64 x, .int .u64 y, .int .u64 z] : Array Value).all (·.oneCell') = true := by simp [Value.oneCell']
theorem one3s (x y : Int) (a : Option Addr) (n c : Nat) : (#[.int .u64 x, .int .u64 y, .slice a n c] : Array Value).all (·.oneCell') = true := by simp [Value.oneCell']
theorem zero19 (w : World) : Calls Try.prog 32 #[] w fun e w' => e = .returned (.agg #[.int .u64 0, .int .u64 1]) ∧ Below w.heap.size w w' := by
  go_enter Try.func32, Try.ntmps32
  go_wp2_with fail
  refine bodyPost_ret (v := edV 0 1) (by simp [results, Try.results32, go_sem]) rfl ⟨rfl, ?_⟩
  repeat (first | exact Below.refl _ _ | assumption | apply bDrewN | apply bDrew | apply bAlloc | refine bSet ?_ (by omega) | refine bThen ?_ (by assumption) (by simp <;> omega))
/-- A transaction without Answers, Proof and Sig. -/
abbrev bareD (t : TxD) : TxD := { t with a0 := 0, a1 := 0, ia := true, xa := 0, ya := 0, ib := true, xb := 0, yb := 0, ic := true, xc := 0, yc := 0, gx := 0, gy := 1, gz := 0 }
set_option maxRecDepth 100000 in
set_option maxHeartbeats 4000000 in
theorem lBare (t : TxD) (w : World) : Calls Try.prog 47 #[txV t] w fun e w' => e = .returned (.agg (txC (bareD t))) ∧ Below w.heap.size w w' := by
  go_enter Try.func47, Try.ntmps47
  go_upto_region 1 with fail
  have E := ((HR.refl w).new (txC t) 37).new zC 37
  simp only [World.size_alloc] at E
  generalize (w.alloc (.cells (txC t) 37)).alloc (.cells zC 37) = w1 at E ⊢
  obtain ⟨b2, hb2⟩ : ∃ z, w.heap.size + 1 = z := ⟨_, rfl⟩
  obtain ⟨b1, hb1⟩ : ∃ z, w.heap.size = z := ⟨_, rfl⟩
  rw [hb2, hb1] at E ⊢
  have hbs : Hid (w.heap.size = b1 ∧ b1 ≠ b2 ∧ w.heap.size ≤ b2 ∧ b1 < w1.heap.size ∧ b2 < w1.heap.size) := Lib.hid ⟨hb1, by omega, by omega, E.lt (b := b1) (cs := txC t) (t := 37) (by simp), E.lt (b := b2) (cs := zC) (t := 37) (by simp)⟩
  have H1 : Hid (HR w w1 [(b2, zC, 37), (b1, txC t, 37)]) := Lib.hid E
  clear E hb1 hb2
  have hth := Row.newThere w1 #[.bool false, .int .u64 0, .int .u64 0] 31
  have und := Try.underlying31
  have undT := Try.underlying37
  go_upto_region 2 with (refine wpList_store_mid rfl _ _ _ rfl w1.heap.size 0 #[.bool true, .int .u64 0, .int .u64 0] rfl rfl hth sizPT (one3 _ _ _) ?_)
  have H2 := Lib.hid (H1.out.fill #[.bool false, .int .u64 0, .int .u64 0] #[.bool true, .int .u64 0, .int .u64 0] 31 rfl)
  clear hth
  generalize (w1.alloc (.cells #[.bool false, .int .u64 0, .int .u64 0] 31)).setCells w1.heap.size 0 (#[.bool true, .int .u64 0, .int .u64 0] : Array Value).toList = w2 at H2 ⊢
  have hb3l : Hid (b1 ≠ w1.heap.size ∧ b2 ≠ w1.heap.size ∧ w.heap.size ≤ w1.heap.size) := Lib.hid ⟨by have := hbs.out; omega, by have := hbs.out; omega, H1.out.2.size⟩
  generalize w1.heap.size = b3 at H2 hb3l ⊢
  clear H1
  have H2' : Hid (HR w w2 [(b1, txC t, 37), (b3, #[.bool true, .int .u64 0, .int .u64 0], 31), (b2, zC, 37)]) := Lib.hid (HR.sub H2.out (by simp))
  clear H2
  have hth := (H2'.out.row (b := b1) (cs := txC t) (t := 37) (by simp)).thereMid 18 2 (by simp)
  go_upto_region 3 with (refine wpList_store_mid rfl _ _ _ rfl b1 18 #[.int .u64 0, .int .u64 0] rfl rfl hth sizA2 (one2 _ _) ?_)
  have H3 : Hid (HR w (w2.setCells b1 18 (#[.int .u64 0, .int .u64 0] : Array Value).toList) [(b1, txC { t with a0 := 0, a1 := 0 }, 37), (b3, #[.bool true, .int .u64 0, .int .u64 0], 31), (b2, zC, 37)]) := Lib.hid (HR.putMany H2'.out (by have := hbs.out; have := hb3l.out; simp; omega) (by have := hbs.out; omega) _ 18 (by simp) rfl)
  clear hth H2'
  generalize w2.setCells b1 18 (#[.int .u64 0, .int .u64 0] : Array Value).toList = w3 at H3 ⊢
  have hr := H3.out.row (b := b3) (cs := #[.bool true, .int .u64 0, .int .u64 0]) (t := 31) (by simp)
  have hth := (H3.out.row (b := b1) (cs := txC { t with a0 := 0, a1 := 0 }) (t := 37) (by simp)).thereMid 20 9 (by simp)
  go_upto_region 4 with (first | (refine wpList_load_row rfl _ _ rfl b3 rfl 31 #[.bool true, .int .u64 0, .int .u64 0] (0, 0) _ hr und rfl sizPT ?_) | (refine wpList_store_mid rfl _ _ _ rfl b1 20 #[.bool true, .int .u64 0, .int .u64 0, .bool true, .int .u64 0, .int .u64 0, .bool true, .int .u64 0, .int .u64 0] rfl rfl hth sizPR (one9 _ _ _ _ _ _ _ _ _) ?_))
  have H4 : Hid (HR w (w3.setCells b1 20 (#[.bool true, .int .u64 0, .int .u64 0, .bool true, .int .u64 0, .int .u64 0, .bool true, .int .u64 0, .int .u64 0] : Array Value).toList) [(b1, txC { t with a0 := 0, a1 := 0, ia := true, xa := 0, ya := 0, ib := true, xb := 0, yb := 0, ic := true, xc := 0, yc := 0 }, 37), (b3, #[.bool true, .int .u64 0, .int .u64 0], 31), (b2, zC, 37)]) := Lib.hid (HR.putMany H3.out (by have := hbs.out; have := hb3l.out; simp; omega) (by have := hbs.out; omega) _ 20 (by simp) rfl)
  clear hth hr H3
  generalize w3.setCells b1 20 (#[.bool true, .int .u64 0, .int .u64 0, .bool true, .int .u64 0, .int .u64 0, .bool true, .int .u64 0, .int .u64 0] : Array Value).toList = w4 at H4 ⊢
  go_wp2_with fail
  refine (zero19 _).mono ?_
  rintro e w5 ⟨rfl, hb⟩
  have H5 := Lib.hid (H4.out.next hb)
  clear hb H4
  have hth := (H5.out.row (b := b1) (cs := txC { t with a0 := 0, a1 := 0, ia := true, xa := 0, ya := 0, ib := true, xb := 0, yb := 0, ic := true, xc := 0, yc := 0 }) (t := 37) (by simp)).thereMid 29 3 (by simp)
  go_upto_region 5 with (refine wpList_store_mid rfl _ _ _ rfl b1 29 #[.int .u64 0, .int .u64 1, .int .u64 0] rfl rfl hth sizSG (one3u _ _ _) ?_)
  have H6 : Hid (HR w (w5.setCells b1 29 (#[.int .u64 0, .int .u64 1, .int .u64 0] : Array Value).toList) [(b1, txC (bareD t), 37), (b3, #[.bool true, .int .u64 0, .int .u64 0], 31), (b2, zC, 37)]) := Lib.hid (HR.putMany H5.out (by have := hbs.out; have := hb3l.out; simp; omega) (by have := hbs.out; omega) _ 29 (by simp) rfl)
  clear hth H5
  generalize w5.setCells b1 29 (#[.int .u64 0, .int .u64 1, .int .u64 0] : Array Value).toList = w6 at H6 ⊢
  have hr := H6.out.row (b := b1) (cs := txC (bareD t)) (t := 37) (by simp)
  have h2 := H6.out.row (b := b2) (cs := zC) (t := 37) (by simp)
  have hth := h2.there
  go_wp2_with (first | (refine wpList_load_row rfl _ _ rfl b1 rfl 37 (txC (bareD t)) (0, 0) _ hr undT rfl sizTX ?_) | (refine wpList_store_mid rfl _ _ _ rfl b2 0 (txC (bareD t)) rfl rfl hth sizTX (oneTx _) ?_))
  have RZ := h2.store (txC (bareD t)) rfl
  refine bodyPost_ret (v := _) (results_cell_row rfl _ _ _ _ _ _ _ rfl RZ undT rfl sizTX) rfl ⟨rfl, ?_⟩
  exact (HR.putMany (cs := zC) (t := 37) (rs := []) (HR.sub H6.out (by simp)) (by simp) (by have := hbs.out; omega) (txC (bareD t)).toList 0 (by simp) rfl).2

end Go.Proofs.Ytkfimfjjmdjbdaa
/- Plain: a root modulo R, found bit by bit, as the reference of layer 19 finds it; which point a number is. -/
namespace Obol

theorem pow_down {c w : Nat} (hw : 0 < w) : (c * c % R) ^ 2 ^ (w - 1) % R = c ^ 2 ^ w % R := by
  rw [← Nat.pow_mod, ← Nat.pow_two, ← Nat.pow_mul, ← Nat.pow_succ', show (w - 1).succ = w by omega]
theorem TS.down1 {a c t x w : Nat} (h : TS a c t x (w + 1)) (hw : 0 < w) (p : t ^ 2 ^ (w - 1) % R = 1) : TS a (c * c % R) t x w where
  c_lt := Nat.mod_lt _ (by decide +kernel)
  t_lt := h.t_lt
  x_lt := h.x_lt
  w_pos := hw
  w_le := by have := h.w_le; omega
  root := h.root
  tp := p
  cp := by rw [pow_down hw]; exact h.cp
theorem TS.down2 {a c t x w : Nat} (h : TS a c t x (w + 1)) (hw : 0 < w) (p : t ^ 2 ^ (w - 1) % R ≠ 1) : TS a (c * c % R) (t * (c * c % R) % R) (x * c % R) w where
  c_lt := Nat.mod_lt _ (by decide +kernel)
  t_lt := Nat.mod_lt _ (by decide +kernel)
  x_lt := Nat.mod_lt _ (by decide +kernel)
  w_pos := hw
  w_le := by have := h.w_le; omega
  root := by
    have e1 : x * c % R * (x * c % R) % R = x * x * (c * c) % R := by
      rw [← Nat.mul_mod]
      congr 1
      simp only [Nat.mul_comm, Nat.mul_left_comm]
    have e2 : a * (t * (c * c % R) % R) % R = a * t * (c * c) % R := by
      rw [Nat.mul_mod a, Nat.mod_mod, ← Nat.mul_mod, ← Nat.mul_assoc, Nat.mul_mod, Nat.mod_mod, ← Nat.mul_mod]
    rw [e1, e2]
    exact mul_cong h.root rfl
  tp := by
    have cc : (c * c % R) ^ 2 ^ (w - 1) % R = R - 1 := by rw [pow_down hw]; exact h.cp
    have tt : t ^ 2 ^ (w - 1) % R = R - 1 := by
      refine one_root (Nat.mod_lt _ (by decide +kernel)) ?_ p
      rw [sq_pow, show w - 1 + 1 = w by omega]
      exact h.tp
    rw [← Nat.pow_mod, Nat.mul_pow, Nat.mul_mod, tt, cc]
    exact last_sq
  cp := by rw [pow_down hw]; exact h.cp

/-- What is known ahead of round k. -/
structure TonI (a : Nat) (c t x k : Int) : Prop where
  c0 : 0 ≤ c
  t0 : 0 ≤ t
  x0 : 0 ≤ x
  k0 : 1 ≤ k
  k1 : k ≤ 18
  ts : TS a c.toNat t.toNat x.toNat (19 - k).toNat
theorem TonI.start {a : Int} (h : a.toNat ^ ((R - 1) / 2) % R = 1) :
    TonI a.toNat ((powR 3 oddR : Nat) : Int) ((powR a.toNat oddR : Nat) : Int) ((powR a.toNat oddH : Nat) : Int) 1 := by
  refine ⟨by omega, by omega, by omega, by omega, by omega, ?_⟩
  rw [Int.toNat_natCast, Int.toNat_natCast, Int.toNat_natCast, powR_eq, powR_eq, powR_eq]
  exact TS.init rfl h
theorem TonI.inner {a : Nat} {c t x k : Int} (h : TonI a c t x k) (hk : k ≤ 17) : RootB t.toNat (17 - k) t 0 := by
  refine ⟨by omega, by omega, h.t0, ?_⟩
  rw [show (0 : Int).toNat = 0 from rfl, Nat.pow_zero, Nat.pow_one, Nat.mod_eq_of_lt h.ts.t_lt]
theorem TonI.one {a : Nat} {c t x k j : Int} (h : TonI a c t x k) (hk : k ≤ 17) (g : RootB t.toNat (17 - k) 1 j) (hj : ¬ j < 17 - k) : TonI a ((mulR c.toNat c.toNat : Nat) : Int) t x (k + 1) := by
  have k0 := h.k0
  have j1 := g.j1
  have he := g.eq
  refine ⟨by omega, h.t0, h.x0, by omega, by omega, ?_⟩
  have ts := h.ts
  rw [Int.toNat_natCast, mulR_eq, show (19 - (k + 1)).toNat = (18 - k).toNat by omega]
  rw [show (19 - k).toNat = (18 - k).toNat + 1 by omega] at ts
  refine ts.down1 (by omega) ?_
  rw [show (18 - k).toNat - 1 = j.toNat by omega]
  exact he.symm
theorem TonI.other {a : Nat} {c t x k p j : Int} (h : TonI a c t x k) (hk : k ≤ 17) (g : RootB t.toNat (17 - k) p j) (hj : ¬ j < 17 - k) (hp : p ≠ 1) :
    TonI a ((mulR c.toNat c.toNat : Nat) : Int) ((mulR t.toNat (mulR c.toNat c.toNat) : Nat) : Int) ((mulR x.toNat c.toNat : Nat) : Int) (k + 1) := by
  have k0 := h.k0
  have j1 := g.j1
  have he := g.eq
  have b0 := g.b0
  refine ⟨by omega, by omega, by omega, by omega, by omega, ?_⟩
  have ts := h.ts
  rw [Int.toNat_natCast, Int.toNat_natCast, Int.toNat_natCast, mulR_eq, show (19 - (k + 1)).toNat = (18 - k).toNat by omega]
  rw [show (19 - k).toNat = (18 - k).toNat + 1 by omega] at ts
  refine ts.down2 (by omega) ?_
  rw [show (18 - k).toNat - 1 = j.toNat by omega, ← he]
  omega
theorem TonI.done {a : Nat} {c t x k : Int} (h : TonI a c t x k) (hk : ¬ k ≤ 17) : x.toNat < R ∧ x.toNat * x.toNat % R = a % R := by
  have k1 := h.k1
  have ts := h.ts
  rw [show (19 - k).toNat = 1 by omega] at ts
  have h1 := ts.tp
  rw [show (1 - 1 : Nat) = 0 from rfl, Nat.pow_zero, Nat.pow_one, Nat.mod_eq_of_lt ts.t_lt] at h1
  refine ⟨ts.x_lt, ?_⟩
  have := ts.root
  rwa [h1, Nat.mul_one] at this

/-- Whatever root was found: the sign's bit tells the point. -/
theorem readN_root {n x : Nat} (hy : n % 9223372036854775808 < R) (hs : sqB (sqN (n % 9223372036854775808)) = true) (hx : x < R) (h : x * x % R = sqN (n % 9223372036854775808) % R) (hn : n < 18446744073709551616) :
    readN n = okN (if x % 2 = n / 9223372036854775808 then x else subR 0 x) (n % 9223372036854775808) (n / 9223372036854775808) := by
  have ho := rootN_ok hs
  have hr2 := R_two
  have hodd := R_odd
  unfold readN
  rw [if_pos ⟨hy, hs⟩]
  generalize rootN (sqN (n % 9223372036854775808)) = r at *
  generalize sqN (n % 9223372036854775808) = q at *
  generalize n % 9223372036854775808 = y at *
  have hb : n / 9223372036854775808 < 2 := by omega
  generalize n / 9223372036854775808 = b at *
  have hs0 : ∀ v, v < R → subR 0 v = if v = 0 then 0 else R - v := fun v hv => by
    rw [subR_eq, subQ, Nat.zero_mod, Nat.mod_eq_of_lt hv, Nat.zero_add]
    split
    · rename_i e; rw [e, Nat.sub_zero, Nat.mod_self]
    · rw [Nat.mod_eq_of_lt (by omega)]
  have hr : r < R := by omega
  rcases two_roots hx hr (h.trans ho.2.symm) with e | e
  · subst e
    by_cases hp : x % 2 = b
    · rw [if_pos hp, if_pos hp]
      unfold okN
      rw [if_pos hp]
    · rw [if_neg hp, if_neg hp]
  · have ex : x = R - r := by omega
    by_cases h0 : r = 0
    · omega
    · have h1 : subR 0 x = r := by rw [hs0 x hx, if_neg (by omega)]; omega
      have h2 : subR 0 r = x := by rw [hs0 r hr, if_neg h0]; omega
      rw [h1, h2]
      have hne : (x % 2 = b) ↔ ¬ (r % 2 = b) := by omega
      by_cases hp : r % 2 = b
      · rw [if_pos hp, if_neg (fun h => hne.1 h hp)]
        unfold okN
        rw [if_pos hp]
      · rw [if_neg hp, if_pos (hne.2 hp)]

end Obol
/- Walks: the reference of layer 3: sums, multiples, points of order R. -/
namespace Go.Proofs.Ytkfimfjjmdjbdaa
open Go.RowKit
set_option linter.unusedVariables false
set_option linter.unusedSectionVars false

theorem litP2 : (1152921505151057921 : Int).toNat = Obol.P - 2 := by decide +kernel
theorem r3Add (a b : Int) (ha : 0 ≤ a) (hb : 0 ≤ b) (w : World) :
    Calls Try.prog 83 #[.int .u64 1152921505151057923, .int .u64 a, .int .u64 b] w fun e w' => e = .returned (.int .u64 ((Obol.addP a.toNat b.toNat : Nat) : Int)) ∧ ∃ n, w' = w.drewN n := by
  have h := r1Add 1152921505151057923 a b (by omega) (by omega) ha hb w
  rw [litP] at h
  rw [Obol.addP_eq]
  exact h.mono fun e w' ⟨h1, h2⟩ => ⟨h1, 0, by rw [h2]; rfl⟩
theorem r3Mul (a b : Int) (ha : 0 ≤ a) (hb : 0 ≤ b) (w : World) :
    Calls Try.prog 82 #[.int .u64 a, .int .u64 b] w fun e w' => e = .returned (.int .u64 ((Obol.mulP a.toNat b.toNat : Nat) : Int)) ∧ ∃ n, w' = w.drewN n := by
  have h := fun w => r1Mul 1152921505151057923 a b (by omega) (by omega) ha hb w
  rw [litP] at h
  rw [Obol.mulP_eq]
  replace h := Lib.hid h
  go_enter Try.func82, Try.ntmps82
  go_wp2_with (go_at_call 93; refine (h.out _).mono ?_; rintro e w' ⟨rfl, rfl⟩)
  go_ret
  exact ⟨rfl, 0, rfl⟩
theorem r2Neg (b : Int) (hb : 0 ≤ b) (w : World) :
    Calls Try.prog 102 #[.int .u64 b] w fun e w' => e = .returned (.int .u64 (if b % 1152921505151057923 = 0 then 0 else 1152921505151057923 - b % 1152921505151057923)) ∧ w' = w := by
  have ht : b.tmod 1152921505151057923 = b % 1152921505151057923 := Int.tmod_eq_emod_of_nonneg hb
  obtain ⟨q, hq⟩ : ∃ q, b % 1152921505151057923 = q := ⟨_, rfl⟩
  have q0 : 0 ≤ q := by omega
  have q1 : q < 1152921505151057923 := by omega
  rw [hq] at ht ⊢
  clear hq
  by_cases hz : q = 0
  · subst hz
    go_enter Try.func102, Try.ntmps102
    go_wp2_with fail
    go_ret
    exact ⟨rfl, rfl⟩
  · have hzb : (q == 0) = false := beq_eq_false_iff_ne.2 hz
    have hr := Lib.hid (if_neg hz : (if q = 0 then (0 : Int) else 1152921505151057923 - q) = 1152921505151057923 - q)
    replace hz := Lib.hid hz
    go_enter Try.func102, Try.ntmps102
    go_wp2_with fail
    go_ret
    exact ⟨rfl, rfl⟩
theorem r3Less (a b : Int) (ha : 0 ≤ a) (hb : 0 ≤ b) (w : World) :
    Calls Try.prog 96 #[.int .u64 a, .int .u64 b] w fun e w' => e = .returned (.int .u64 ((Obol.subP a.toNat b.toNat : Nat) : Int)) ∧ ∃ n, w' = w.drewN n := by
  have hN := fun w => r2Neg b hb w
  obtain ⟨q, hq⟩ : ∃ q : Int, (if b % 1152921505151057923 = 0 then 0 else 1152921505151057923 - b % 1152921505151057923) = q := ⟨_, rfl⟩
  have q0 : 0 ≤ q := by rw [← hq]; split <;> omega
  have hs : Obol.addP a.toNat q.toNat = Obol.subP a.toNat b.toNat := by
    rw [Obol.addP_eq, Obol.subP_eq, Obol.addPQ, Obol.subPQ, ← hq, Obol.P_def]
    split <;> omega
  rw [hq] at hN
  have hA := fun w => r3Add a q ha q0 w
  rw [hs] at hA
  replace hN := Lib.hid hN
  replace hA := Lib.hid hA
  clear hq hs
  go_enter Try.func96, Try.ntmps96
  go_wp2_with (first | (go_at_call 102; refine (hN.out _).mono ?_; rintro e w' ⟨rfl, rfl⟩) | (go_at_call 83; refine (hA.out _).mono ?_; rintro e w' ⟨rfl, n, rfl⟩))
  go_ret
  exact ⟨rfl, _, rfl⟩
theorem r3Over (a b : Int) (ha : 0 ≤ a) (hb : 0 ≤ b) (w : World) :
    Calls Try.prog 101 #[.int .u64 a, .int .u64 b] w fun e w' => e = .returned (.int .u64 ((Obol.overP a.toNat b.toNat : Nat) : Int)) ∧ ∃ n, w' = w.drewN n := by
  have h := fun w => r1Pow 1152921505151057923 b 1152921505151057921 (by omega) (by omega) hb (by omega) (by omega) w
  rw [litP, litP2, Obol.powM, ← Obol.invP_eq] at h
  replace h := Lib.hid h
  go_enter Try.func101, Try.ntmps101
  go_wp2_with (first | (go_at_call 87; refine (h.out _).mono ?_; rintro e w' ⟨rfl, rfl⟩) | (go_at_call 82; refine (r3Mul _ _ (by omega) (by omega) _).mono ?_; rintro e w' ⟨rfl, n, rfl⟩))
  go_ret
  refine ⟨?_, _, rfl⟩
  show Ending.returned (.int .u64 ((Obol.mulP a.toNat (Obol.invP b.toNat) : Nat) : Int)) = _
  rw [Obol.overP]

theorem r3Is (i : Bool) (X Y : Int) (hX : 0 ≤ X) (hY : 0 ≤ Y) (w : World) :
    Calls Try.prog 59 #[ptV i X Y] w fun e w' => e = .returned (.bool (isPt i X Y)) ∧ Below w.heap.size w w' := by
  cases i
  · have hi : isPt false X Y = Obol.isC X.toNat Y.toNat := rfl
    rw [hi]
    clear hi
    by_cases h1 : (1152921505151057923 : Int) ≤ X
    · have hr := Lib.hid (isC_far1 (x := X.toNat) (y := Y.toNat) (by omega))
      go_enter Try.func59, Try.ntmps59
      go_wp2_with fail
      go_ret
      exact ⟨by rw [hr.out]; rfl, by repeat (first | exact Below.refl _ _ | assumption | apply bDrewN | apply bDrew | apply bAlloc | refine bSet ?_ (by omega) | refine bThen ?_ (by assumption) (by simp <;> omega))⟩
    · by_cases h2 : (1152921505151057923 : Int) ≤ Y
      · have hr := Lib.hid (isC_far2 (x := X.toNat) (y := Y.toNat) (by omega))
        go_enter Try.func59, Try.ntmps59
        go_wp2_with fail
        go_ret
        exact ⟨by rw [hr.out]; rfl, by repeat (first | exact Below.refl _ _ | assumption | apply bDrewN | apply bDrew | apply bAlloc | refine bSet ?_ (by omega) | refine bThen ?_ (by assumption) (by simp <;> omega))⟩
      · have hr0 := isC_near (x := X.toNat) (y := Y.toNat) (by omega) (by omega)
        rw [Obol.mulP_comm (Obol.mulP X.toNat X.toNat)] at hr0
        have hr := Lib.hid hr0
        clear hr0
        go_enter Try.func59, Try.ntmps59
        go_wp2_with fail
        go_quiet ((first | (go_at_call 82; first | (refine Calls.quiet_of (r3Mul _ _ ?_ ?_ _) <;> omega) | (refine quiet_add (r3Mul _ _ ?_ ?_ _) <;> omega)) | (go_at_call 83; first | (refine Calls.quiet_of (r3Add _ _ ?_ ?_ _) <;> omega) | (refine quiet_add (r3Add _ _ ?_ ?_ _) <;> omega))))
        go_wp2_with fail
        go_ret
        exact ⟨by rw [hr.out]; rfl, by repeat (first | exact Below.refl _ _ | assumption | apply bDrewN | apply bDrew | apply bAlloc | refine bSet ?_ (by omega) | refine bThen ?_ (by assumption) (by simp <;> omega))⟩
  · have hr := Lib.hid (show isPt true X Y = (X == 0 && Y == 0) from rfl)
    by_cases h1 : X = 0
    · by_cases h2 : Y = 0
      · subst h1 h2
        go_enter Try.func59, Try.ntmps59
        go_wp2_with fail
        go_ret
        exact ⟨by rw [hr.out]; rfl, by repeat (first | exact Below.refl _ _ | assumption | apply bDrewN | apply bDrew | apply bAlloc | refine bSet ?_ (by omega) | refine bThen ?_ (by assumption) (by simp <;> omega))⟩
      · subst h1
        have h3 : (Y == 0) = false := beq_eq_false_iff_ne.2 h2
        replace h2 := Lib.hid h2
        go_enter Try.func59, Try.ntmps59
        go_wp2_with fail
        go_ret
        exact ⟨by rw [hr.out, h3]; rfl, by repeat (first | exact Below.refl _ _ | assumption | apply bDrewN | apply bDrew | apply bAlloc | refine bSet ?_ (by omega) | refine bThen ?_ (by assumption) (by simp <;> omega))⟩
    · have h3 : (X == 0) = false := beq_eq_false_iff_ne.2 h1
      replace h1 := Lib.hid h1
      go_enter Try.func59, Try.ntmps59
      go_wp2_with fail
      go_ret
      exact ⟨by rw [hr.out, h3]; rfl, by repeat (first | exact Below.refl _ _ | assumption | apply bDrewN | apply bDrew | apply bAlloc | refine bSet ?_ (by omega) | refine bThen ?_ (by assumption) (by simp <;> omega))⟩

section
variable (X Y A B : Int) (hX : 0 ≤ X) (hY : 0 ≤ Y) (hA : 0 ≤ A) (hB : 0 ≤ B) (w : World)
include hX hY hA hB
theorem r3WallN (h : X ≠ A) : Calls Try.prog 94 #[ptV false X Y, ptV false A B] w fun e w' => e = .returned (.bool false) ∧ Below w.heap.size w w' := by
  have h1 : (X == A) = false := beq_eq_false_iff_ne.2 h
  replace h := Lib.hid h
  go_enter Try.func94, Try.ntmps94
  go_wp2_with fail
  go_ret
  exact ⟨rfl, by repeat (first | exact Below.refl _ _ | assumption | apply bDrewN | apply bDrew | apply bAlloc | refine bSet ?_ (by omega) | refine bThen ?_ (by assumption) (by simp <;> omega))⟩
theorem r3WallS (s : Nat) (h : Obol.addP Y.toNat B.toNat = s) (h0 : s ≠ 0) : Calls Try.prog 94 #[ptV false X Y, ptV false X B] w fun e w' => e = .returned (.bool false) ∧ Below w.heap.size w w' := by
  have h1 : (((s : Nat) : Int) == 0) = false := beq_eq_false_iff_ne.2 (by omega)
  have hS := fun w => r3Add Y B hY hB w
  rw [h] at hS
  replace hS := Lib.hid hS
  replace h0 := Lib.hid h0
  replace h := Lib.hid h
  go_enter Try.func94, Try.ntmps94
  go_wp2_with (go_at_call 83; refine (hS.out _).mono ?_; rintro e w' ⟨rfl, n, rfl⟩)
  go_ret
  exact ⟨rfl, by repeat (first | exact Below.refl _ _ | assumption | apply bDrewN | apply bDrew | apply bAlloc | refine bSet ?_ (by omega) | refine bThen ?_ (by assumption) (by simp <;> omega))⟩
theorem r3WallY (h : Obol.addP Y.toNat B.toNat = 0) : Calls Try.prog 94 #[ptV false X Y, ptV false X B] w fun e w' => e = .returned (.bool true) ∧ Below w.heap.size w w' := by
  have hS := fun w => r3Add Y B hY hB w
  rw [h] at hS
  replace hS := Lib.hid hS
  replace h := Lib.hid h
  go_enter Try.func94, Try.ntmps94
  go_wp2_with (go_at_call 83; refine (hS.out _).mono ?_; rintro e w' ⟨rfl, n, rfl⟩)
  go_ret
  exact ⟨rfl, by repeat (first | exact Below.refl _ _ | assumption | apply bDrewN | apply bDrew | apply bAlloc | refine bSet ?_ (by omega) | refine bThen ?_ (by assumption) (by simp <;> omega))⟩
theorem r3Slope : Calls Try.prog 95 #[ptV false X Y, ptV false A B] w fun e w' => e = .returned (.int .u64 ((Obol.slopeC (X.toNat, Y.toNat) (A.toNat, B.toNat) : Nat) : Int)) ∧ Below w.heap.size w w' := by
  by_cases h : X = A
  · subst h
    have hr : Hid (Obol.slopeC (X.toNat, Y.toNat) (X.toNat, B.toNat) = Obol.overP (Obol.addP (Obol.mulP 3 (Obol.mulP X.toNat X.toNat)) 1) (Obol.mulP 2 Y.toNat)) := Lib.hid (if_pos rfl)
    go_enter Try.func95, Try.ntmps95
    go_wp2_with fail
    go_quiet ((first | (go_at_call 82; first | (refine Calls.quiet_of (r3Mul _ _ ?_ ?_ _) <;> omega) | (refine quiet_add (r3Mul _ _ ?_ ?_ _) <;> omega)) | (go_at_call 96; first | (refine Calls.quiet_of (r3Less _ _ ?_ ?_ _) <;> omega) | (refine quiet_add (r3Less _ _ ?_ ?_ _) <;> omega)) | (go_at_call 101; first | (refine Calls.quiet_of (r3Over _ _ ?_ ?_ _) <;> omega) | (refine quiet_add (r3Over _ _ ?_ ?_ _) <;> omega)) | (go_at_call 83; first | (refine Calls.quiet_of (r3Add _ _ ?_ ?_ _) <;> omega) | (refine quiet_add (r3Add _ _ ?_ ?_ _) <;> omega))))
    go_wp2_with fail
    go_ret
    exact ⟨by rw [hr.out]; rfl, by repeat (first | exact Below.refl _ _ | assumption | apply bDrewN | apply bDrew | apply bAlloc | refine bSet ?_ (by omega) | refine bThen ?_ (by assumption) (by simp <;> omega))⟩
  · have hr : Hid (Obol.slopeC (X.toNat, Y.toNat) (A.toNat, B.toNat) = Obol.overP (Obol.subP B.toNat Y.toNat) (Obol.subP A.toNat X.toNat)) := Lib.hid (if_neg (by simp only; omega))
    have h1 : (X == A) = false := beq_eq_false_iff_ne.2 h
    replace h := Lib.hid h
    go_enter Try.func95, Try.ntmps95
    go_wp2_with fail
    go_quiet ((first | (go_at_call 82; first | (refine Calls.quiet_of (r3Mul _ _ ?_ ?_ _) <;> omega) | (refine quiet_add (r3Mul _ _ ?_ ?_ _) <;> omega)) | (go_at_call 96; first | (refine Calls.quiet_of (r3Less _ _ ?_ ?_ _) <;> omega) | (refine quiet_add (r3Less _ _ ?_ ?_ _) <;> omega)) | (go_at_call 101; first | (refine Calls.quiet_of (r3Over _ _ ?_ ?_ _) <;> omega) | (refine quiet_add (r3Over _ _ ?_ ?_ _) <;> omega)) | (go_at_call 83; first | (refine Calls.quiet_of (r3Add _ _ ?_ ?_ _) <;> omega) | (refine quiet_add (r3Add _ _ ?_ ?_ _) <;> omega))))
    go_wp2_with fail
    go_ret
    exact ⟨by rw [hr.out]; rfl, by repeat (first | exact Below.refl _ _ | assumption | apply bDrewN | apply bDrew | apply bAlloc | refine bSet ?_ (by omega) | refine bThen ?_ (by assumption) (by simp <;> omega))⟩
end

/-- Three values that stand for a point, or Inf. -/
def IsO (p : Option (Nat × Nat)) (i : Bool) (X Y : Int) : Prop := match p with
  | .none => i = true ∧ X = 0 ∧ Y = 0
  | .some q => i = false ∧ X = (q.1 : Nat) ∧ Y = (q.2 : Nat)
def SumSaid (r : Option (Nat × Nat)) (w : World) (e : Ending) (w' : World) : Prop := (∃ i x y, IsO r i x y ∧ e = .returned (.agg #[.bool i, .int .u64 x, .int .u64 y])) ∧ Below w.heap.size w w'
set_option maxRecDepth 8000 in
set_option maxHeartbeats 4000000 in
theorem r3SumI (i : Bool) (X Y : Int) (w : World) : Calls Try.prog 84 #[ptV true 0 0, ptV i X Y] w fun e w' => e = .returned (ptV i X Y) ∧ Below w.heap.size w w' := by
  go_enter Try.func84, Try.ntmps84
  go_upto_region 1 with fail
  have hR1 := (((HR.refl w).new #[.bool true, .int .u64 0, .int .u64 0] 31).new #[.bool i, .int .u64 X, .int .u64 Y] 31).new #[.bool false, .int .u64 0, .int .u64 0] 31
  simp only [World.size_alloc] at hR1
  have hbw := hR1.lt (b := w.heap.size + 1 + 1) (cs := #[.bool false, .int .u64 0, .int .u64 0]) (t := 31) (by simp)
  generalize ((w.alloc (.cells #[.bool true, .int .u64 0, .int .u64 0] 31)).alloc (.cells #[.bool i, .int .u64 X, .int .u64 Y] 31)).alloc (.cells #[.bool false, .int .u64 0, .int .u64 0] 31) = w2 at hR1 hbw ⊢
  generalize hb4 : w.heap.size + 1 + 1 = b4 at hR1 hbw ⊢
  generalize hb2 : w.heap.size + 1 = b2 at hR1 ⊢
  generalize hb1 : w.heap.size = b1 at hR1 ⊢
  have hbs : Hid (w.heap.size ≤ b1 ∧ b1 < b2 ∧ b1 < b4 ∧ b2 < b4) := Lib.hid (by omega)
  have H0 : Hid (HR w w2 [(b4, #[.bool false, .int .u64 0, .int .u64 0], 31), (b2, #[.bool i, .int .u64 X, .int .u64 Y], 31), (b1, #[.bool true, .int .u64 0, .int .u64 0], 31)]) := Lib.hid hR1
  clear hb1 hb2 hb4 hR1 hbw
  have c_b1_0 := H0.out.cell (b := b1) (cs := #[.bool true, .int .u64 0, .int .u64 0]) (t := 31) (by simp) 0 rfl
  have c_b1_1 := H0.out.cell (b := b1) (cs := #[.bool true, .int .u64 0, .int .u64 0]) (t := 31) (by simp) 1 rfl
  have c_b1_2 := H0.out.cell (b := b1) (cs := #[.bool true, .int .u64 0, .int .u64 0]) (t := 31) (by simp) 2 rfl
  have c_b2_0 := H0.out.cell (b := b2) (cs := #[.bool i, .int .u64 X, .int .u64 Y]) (t := 31) (by simp) 0 rfl
  have c_b2_1 := H0.out.cell (b := b2) (cs := #[.bool i, .int .u64 X, .int .u64 Y]) (t := 31) (by simp) 1 rfl
  have c_b2_2 := H0.out.cell (b := b2) (cs := #[.bool i, .int .u64 X, .int .u64 Y]) (t := 31) (by simp) 2 rfl
  have c_b4_0 := H0.out.cell (b := b4) (cs := #[.bool false, .int .u64 0, .int .u64 0]) (t := 31) (by simp) 0 rfl
  have c_b4_1 := H0.out.cell (b := b4) (cs := #[.bool false, .int .u64 0, .int .u64 0]) (t := 31) (by simp) 1 rfl
  have c_b4_2 := H0.out.cell (b := b4) (cs := #[.bool false, .int .u64 0, .int .u64 0]) (t := 31) (by simp) 2 rfl
  have f_b4_0 := H0.out.free (b := b4) (cs := #[.bool false, .int .u64 0, .int .u64 0]) (t := 31) (by simp) 0
  have f_b4_1 := H0.out.free (b := b4) (cs := #[.bool false, .int .u64 0, .int .u64 0]) (t := 31) (by simp) 1
  have f_b4_2 := H0.out.free (b := b4) (cs := #[.bool false, .int .u64 0, .int .u64 0]) (t := 31) (by simp) 2
  have hL := Lib.hid (HR.put3 (u := .bool i) (v := .int .u64 X) (x := .int .u64 Y) (HR.sub (qs := [(b4, #[.bool false, .int .u64 0, .int .u64 0], 31)]) H0.out (by simp)) (by simp) (by have := hbs.out; omega))
  have s0 := hL.out.cell (b := b4) (cs := #[.bool i, .int .u64 X, .int .u64 Y]) (t := 31) (by simp) 0 rfl
  have s1 := hL.out.cell (b := b4) (cs := #[.bool i, .int .u64 X, .int .u64 Y]) (t := 31) (by simp) 1 rfl
  have s2 := hL.out.cell (b := b4) (cs := #[.bool i, .int .u64 X, .int .u64 Y]) (t := 31) (by simp) 2 rfl
  go_wp2_with fail
  refine bodyPost_ret (v := ptV i X Y) (by simp [results, Try.results84, go_sem, s0, s1, s2]) rfl ⟨rfl, hL.out.2⟩
set_option maxRecDepth 8000 in
set_option maxHeartbeats 4000000 in
theorem r3SumJ (X Y : Int) (w : World) : Calls Try.prog 84 #[ptV false X Y, ptV true 0 0] w fun e w' => e = .returned (ptV false X Y) ∧ Below w.heap.size w w' := by
  go_enter Try.func84, Try.ntmps84
  go_upto_region 1 with fail
  have hR1 := (((HR.refl w).new #[.bool false, .int .u64 X, .int .u64 Y] 31).new #[.bool true, .int .u64 0, .int .u64 0] 31).new #[.bool false, .int .u64 0, .int .u64 0] 31
  simp only [World.size_alloc] at hR1
  have hbw := hR1.lt (b := w.heap.size + 1 + 1) (cs := #[.bool false, .int .u64 0, .int .u64 0]) (t := 31) (by simp)
  generalize ((w.alloc (.cells #[.bool false, .int .u64 X, .int .u64 Y] 31)).alloc (.cells #[.bool true, .int .u64 0, .int .u64 0] 31)).alloc (.cells #[.bool false, .int .u64 0, .int .u64 0] 31) = w2 at hR1 hbw ⊢
  generalize hb4 : w.heap.size + 1 + 1 = b4 at hR1 hbw ⊢
  generalize hb2 : w.heap.size + 1 = b2 at hR1 ⊢
  generalize hb1 : w.heap.size = b1 at hR1 ⊢
  have hbs : Hid (w.heap.size ≤ b1 ∧ b1 < b2 ∧ b1 < b4 ∧ b2 < b4) := Lib.hid (by omega)
  have H0 : Hid (HR w w2 [(b4, #[.bool false, .int .u64 0, .int .u64 0], 31), (b2, #[.bool true, .int .u64 0, .int .u64 0], 31), (b1, #[.bool false, .int .u64 X, .int .u64 Y], 31)]) := Lib.hid hR1
  clear hb1 hb2 hb4 hR1 hbw
  have c_b1_0 := H0.out.cell (b := b1) (cs := #[.bool false, .int .u64 X, .int .u64 Y]) (t := 31) (by simp) 0 rfl
  have c_b1_1 := H0.out.cell (b := b1) (cs := #[.bool false, .int .u64 X, .int .u64 Y]) (t := 31) (by simp) 1 rfl
  have c_b1_2 := H0.out.cell (b := b1) (cs := #[.bool false, .int .u64 X, .int .u64 Y]) (t := 31) (by simp) 2 rfl
  have c_b2_0 := H0.out.cell (b := b2) (cs := #[.bool true, .int .u64 0, .int .u64 0]) (t := 31) (by simp) 0 rfl
  have c_b2_1 := H0.out.cell (b := b2) (cs := #[.bool true, .int .u64 0, .int .u64 0]) (t := 31) (by simp) 1 rfl
  have c_b2_2 := H0.out.cell (b := b2) (cs := #[.bool true, .int .u64 0, .int .u64 0]) (t := 31) (by simp) 2 rfl
  have c_b4_0 := H0.out.cell (b := b4) (cs := #[.bool false, .int .u64 0, .int .u64 0]) (t := 31) (by simp) 0 rfl
  have c_b4_1 := H0.out.cell (b := b4) (cs := #[.bool false, .int .u64 0, .int .u64 0]) (t := 31) (by simp) 1 rfl
  have c_b4_2 := H0.out.cell (b := b4) (cs := #[.bool false, .int .u64 0, .int .u64 0]) (t := 31) (by simp) 2 rfl
  have f_b4_0 := H0.out.free (b := b4) (cs := #[.bool false, .int .u64 0, .int .u64 0]) (t := 31) (by simp) 0
  have f_b4_1 := H0.out.free (b := b4) (cs := #[.bool false, .int .u64 0, .int .u64 0]) (t := 31) (by simp) 1
  have f_b4_2 := H0.out.free (b := b4) (cs := #[.bool false, .int .u64 0, .int .u64 0]) (t := 31) (by simp) 2
  have hL := Lib.hid (HR.put3 (u := .bool false) (v := .int .u64 X) (x := .int .u64 Y) (HR.sub (qs := [(b4, #[.bool false, .int .u64 0, .int .u64 0], 31)]) H0.out (by simp)) (by simp) (by have := hbs.out; omega))
  have s0 := hL.out.cell (b := b4) (cs := #[.bool false, .int .u64 X, .int .u64 Y]) (t := 31) (by simp) 0 rfl
  have s1 := hL.out.cell (b := b4) (cs := #[.bool false, .int .u64 X, .int .u64 Y]) (t := 31) (by simp) 1 rfl
  have s2 := hL.out.cell (b := b4) (cs := #[.bool false, .int .u64 X, .int .u64 Y]) (t := 31) (by simp) 2 rfl
  go_wp2_with fail
  refine bodyPost_ret (v := ptV false X Y) (by simp [results, Try.results84, go_sem, s0, s1, s2]) rfl ⟨rfl, hL.out.2⟩
set_option maxRecDepth 8000 in
set_option maxHeartbeats 4000000 in
theorem r3SumW (X Y A B : Int) (hW : ∀ w, Calls Try.prog 94 #[ptV false X Y, ptV false A B] w fun e w' => e = .returned (.bool true) ∧ Below w.heap.size w w') (w : World) : Calls Try.prog 84 #[ptV false X Y, ptV false A B] w fun e w' => e = .returned (ptV true 0 0) ∧ Below w.heap.size w w' := by
  have cW := Lib.hid hW
  clear hW
  go_enter Try.func84, Try.ntmps84
  go_upto_region 1 with fail
  have hR1 := (((HR.refl w).new #[.bool false, .int .u64 X, .int .u64 Y] 31).new #[.bool false, .int .u64 A, .int .u64 B] 31).new #[.bool false, .int .u64 0, .int .u64 0] 31
  simp only [World.size_alloc] at hR1
  have hbw := hR1.lt (b := w.heap.size + 1 + 1) (cs := #[.bool false, .int .u64 0, .int .u64 0]) (t := 31) (by simp)
  generalize ((w.alloc (.cells #[.bool false, .int .u64 X, .int .u64 Y] 31)).alloc (.cells #[.bool false, .int .u64 A, .int .u64 B] 31)).alloc (.cells #[.bool false, .int .u64 0, .int .u64 0] 31) = w2 at hR1 hbw ⊢
  generalize hb4 : w.heap.size + 1 + 1 = b4 at hR1 hbw ⊢
  generalize hb2 : w.heap.size + 1 = b2 at hR1 ⊢
  generalize hb1 : w.heap.size = b1 at hR1 ⊢
  have hbs : Hid (w.heap.size ≤ b1 ∧ b1 < b2 ∧ b1 < b4 ∧ b2 < b4) := Lib.hid (by omega)
  have H0 : Hid (HR w w2 [(b4, #[.bool false, .int .u64 0, .int .u64 0], 31), (b2, #[.bool false, .int .u64 A, .int .u64 B], 31), (b1, #[.bool false, .int .u64 X, .int .u64 Y], 31)]) := Lib.hid hR1
  clear hb1 hb2 hb4 hR1 hbw
  have c_b1_0 := H0.out.cell (b := b1) (cs := #[.bool false, .int .u64 X, .int .u64 Y]) (t := 31) (by simp) 0 rfl
  have c_b1_1 := H0.out.cell (b := b1) (cs := #[.bool false, .int .u64 X, .int .u64 Y]) (t := 31) (by simp) 1 rfl
  have c_b1_2 := H0.out.cell (b := b1) (cs := #[.bool false, .int .u64 X, .int .u64 Y]) (t := 31) (by simp) 2 rfl
  have c_b2_0 := H0.out.cell (b := b2) (cs := #[.bool false, .int .u64 A, .int .u64 B]) (t := 31) (by simp) 0 rfl
  have c_b2_1 := H0.out.cell (b := b2) (cs := #[.bool false, .int .u64 A, .int .u64 B]) (t := 31) (by simp) 1 rfl
  have c_b2_2 := H0.out.cell (b := b2) (cs := #[.bool false, .int .u64 A, .int .u64 B]) (t := 31) (by simp) 2 rfl
  go_wp2_with fail
  refine (cW.out _).mono ?_
  rintro e w3 ⟨rfl, hb3⟩
  have H3 := Lib.hid (H0.out.next hb3)
  clear hb3 H0
  clear c_b1_0 c_b1_1 c_b1_2 c_b2_0 c_b2_1 c_b2_2
  have c_b4_0 := H3.out.cell (b := b4) (cs := #[.bool false, .int .u64 0, .int .u64 0]) (t := 31) (by simp) 0 rfl
  have c_b4_1 := H3.out.cell (b := b4) (cs := #[.bool false, .int .u64 0, .int .u64 0]) (t := 31) (by simp) 1 rfl
  have c_b4_2 := H3.out.cell (b := b4) (cs := #[.bool false, .int .u64 0, .int .u64 0]) (t := 31) (by simp) 2 rfl
  have f_b4_0 := H3.out.free (b := b4) (cs := #[.bool false, .int .u64 0, .int .u64 0]) (t := 31) (by simp) 0
  have f_b4_1 := H3.out.free (b := b4) (cs := #[.bool false, .int .u64 0, .int .u64 0]) (t := 31) (by simp) 1
  have f_b4_2 := H3.out.free (b := b4) (cs := #[.bool false, .int .u64 0, .int .u64 0]) (t := 31) (by simp) 2
  have hL := Lib.hid (HR.put3 (u := .bool true) (v := .int .u64 0) (x := .int .u64 0) (HR.sub (qs := [(b4, #[.bool false, .int .u64 0, .int .u64 0], 31)]) H3.out (by simp)) (by simp) (by have := hbs.out; omega))
  have s0 := hL.out.cell (b := b4) (cs := #[.bool true, .int .u64 0, .int .u64 0]) (t := 31) (by simp) 0 rfl
  have s1 := hL.out.cell (b := b4) (cs := #[.bool true, .int .u64 0, .int .u64 0]) (t := 31) (by simp) 1 rfl
  have s2 := hL.out.cell (b := b4) (cs := #[.bool true, .int .u64 0, .int .u64 0]) (t := 31) (by simp) 2 rfl
  go_wp2_with fail
  refine bodyPost_ret (v := ptV true 0 0) (by simp [results, Try.results84, go_sem, s0, s1, s2]) rfl ⟨rfl, hL.out.2⟩
set_option maxRecDepth 8000 in
set_option maxHeartbeats 4000000 in
theorem r3SumL (X Y A B : Int) (hX : 0 ≤ X) (hY : 0 ≤ Y) (hA : 0 ≤ A) (hB : 0 ≤ B) (hW : ∀ w, Calls Try.prog 94 #[ptV false X Y, ptV false A B] w fun e w' => e = .returned (.bool false) ∧ Below w.heap.size w w') (w : World) : Calls Try.prog 84 #[ptV false X Y, ptV false A B] w fun e w' => e = .returned (ptV false (((Obol.lineC (Obol.slopeC (X.toNat, Y.toNat) (A.toNat, B.toNat)) (X.toNat, Y.toNat) (A.toNat, B.toNat)).1 : Nat) : Int) (((Obol.lineC (Obol.slopeC (X.toNat, Y.toNat) (A.toNat, B.toNat)) (X.toNat, Y.toNat) (A.toNat, B.toNat)).2 : Nat) : Int)) ∧ Below w.heap.size w w' := by
  have cW := Lib.hid hW
  have cS := fun w => r3Slope X Y A B hX hY hA hB w
  obtain ⟨l, hl0⟩ : ∃ n, Obol.slopeC (X.toNat, Y.toNat) (A.toNat, B.toNat) = n := ⟨_, rfl⟩
  rw [hl0] at cS
  have hl := Lib.hid hl0
  replace cS := Lib.hid cS
  clear hW hl0
  go_enter Try.func84, Try.ntmps84
  go_upto_region 1 with fail
  have hR1 := (((HR.refl w).new #[.bool false, .int .u64 X, .int .u64 Y] 31).new #[.bool false, .int .u64 A, .int .u64 B] 31).new #[.bool false, .int .u64 0, .int .u64 0] 31
  simp only [World.size_alloc] at hR1
  have hbw := hR1.lt (b := w.heap.size + 1 + 1) (cs := #[.bool false, .int .u64 0, .int .u64 0]) (t := 31) (by simp)
  generalize ((w.alloc (.cells #[.bool false, .int .u64 X, .int .u64 Y] 31)).alloc (.cells #[.bool false, .int .u64 A, .int .u64 B] 31)).alloc (.cells #[.bool false, .int .u64 0, .int .u64 0] 31) = w2 at hR1 hbw ⊢
  generalize hb4 : w.heap.size + 1 + 1 = b4 at hR1 hbw ⊢
  generalize hb2 : w.heap.size + 1 = b2 at hR1 ⊢
  generalize hb1 : w.heap.size = b1 at hR1 ⊢
  have hbs : Hid (w.heap.size ≤ b1 ∧ b1 < b2 ∧ b1 < b4 ∧ b2 < b4) := Lib.hid (by omega)
  have H0 : Hid (HR w w2 [(b4, #[.bool false, .int .u64 0, .int .u64 0], 31), (b2, #[.bool false, .int .u64 A, .int .u64 B], 31), (b1, #[.bool false, .int .u64 X, .int .u64 Y], 31)]) := Lib.hid hR1
  clear hb1 hb2 hb4 hR1 hbw
  have c_b1_0 := H0.out.cell (b := b1) (cs := #[.bool false, .int .u64 X, .int .u64 Y]) (t := 31) (by simp) 0 rfl
  have c_b1_1 := H0.out.cell (b := b1) (cs := #[.bool false, .int .u64 X, .int .u64 Y]) (t := 31) (by simp) 1 rfl
  have c_b1_2 := H0.out.cell (b := b1) (cs := #[.bool false, .int .u64 X, .int .u64 Y]) (t := 31) (by simp) 2 rfl
  have c_b2_0 := H0.out.cell (b := b2) (cs := #[.bool false, .int .u64 A, .int .u64 B]) (t := 31) (by simp) 0 rfl
  have c_b2_1 := H0.out.cell (b := b2) (cs := #[.bool false, .int .u64 A, .int .u64 B]) (t := 31) (by simp) 1 rfl
  have c_b2_2 := H0.out.cell (b := b2) (cs := #[.bool false, .int .u64 A, .int .u64 B]) (t := 31) (by simp) 2 rfl
  go_wp2_with fail
  refine (cW.out _).mono ?_
  rintro e w3 ⟨rfl, hb3⟩
  have H3 := Lib.hid (H0.out.next hb3)
  clear hb3 H0
  clear c_b1_0 c_b1_1 c_b1_2 c_b2_0 c_b2_1 c_b2_2
  have c_b1_0 := H3.out.cell (b := b1) (cs := #[.bool false, .int .u64 X, .int .u64 Y]) (t := 31) (by simp) 0 rfl
  have c_b1_1 := H3.out.cell (b := b1) (cs := #[.bool false, .int .u64 X, .int .u64 Y]) (t := 31) (by simp) 1 rfl
  have c_b1_2 := H3.out.cell (b := b1) (cs := #[.bool false, .int .u64 X, .int .u64 Y]) (t := 31) (by simp) 2 rfl
  have c_b2_0 := H3.out.cell (b := b2) (cs := #[.bool false, .int .u64 A, .int .u64 B]) (t := 31) (by simp) 0 rfl
  have c_b2_1 := H3.out.cell (b := b2) (cs := #[.bool false, .int .u64 A, .int .u64 B]) (t := 31) (by simp) 1 rfl
  have c_b2_2 := H3.out.cell (b := b2) (cs := #[.bool false, .int .u64 A, .int .u64 B]) (t := 31) (by simp) 2 rfl
  go_wp2_with fail
  refine (cS.out _).mono ?_
  rintro e w4 ⟨rfl, hb4⟩
  have H4 := Lib.hid (H3.out.next hb4)
  clear hb4 H3
  clear c_b1_0 c_b1_1 c_b1_2 c_b2_0 c_b2_1 c_b2_2
  have c_b1_0 := H4.out.cell (b := b1) (cs := #[.bool false, .int .u64 X, .int .u64 Y]) (t := 31) (by simp) 0 rfl
  have c_b1_1 := H4.out.cell (b := b1) (cs := #[.bool false, .int .u64 X, .int .u64 Y]) (t := 31) (by simp) 1 rfl
  have c_b1_2 := H4.out.cell (b := b1) (cs := #[.bool false, .int .u64 X, .int .u64 Y]) (t := 31) (by simp) 2 rfl
  have c_b2_0 := H4.out.cell (b := b2) (cs := #[.bool false, .int .u64 A, .int .u64 B]) (t := 31) (by simp) 0 rfl
  have c_b2_1 := H4.out.cell (b := b2) (cs := #[.bool false, .int .u64 A, .int .u64 B]) (t := 31) (by simp) 1 rfl
  have c_b2_2 := H4.out.cell (b := b2) (cs := #[.bool false, .int .u64 A, .int .u64 B]) (t := 31) (by simp) 2 rfl
  go_wp2_with fail
  go_quiet ((first | (go_at_call 82; first | (refine Calls.quiet_of (r3Mul _ _ ?_ ?_ _) <;> omega) | (refine quiet_add (r3Mul _ _ ?_ ?_ _) <;> omega)) | (go_at_call 96; first | (refine Calls.quiet_of (r3Less _ _ ?_ ?_ _) <;> omega) | (refine quiet_add (r3Less _ _ ?_ ?_ _) <;> omega)) | (go_at_call 83; first | (refine Calls.quiet_of (r3Add _ _ ?_ ?_ _) <;> omega) | (refine quiet_add (r3Add _ _ ?_ ?_ _) <;> omega))))
  go_wp2_with fail
  clear c_b1_0 c_b1_1 c_b1_2 c_b2_0 c_b2_1 c_b2_2
  have H7 := Lib.hid (HR.sub (qs := [(b2, #[.bool false, .int .u64 A, .int .u64 B], 31), (b1, #[.bool false, .int .u64 X, .int .u64 Y], 31)]) H4.out (by simp))
  have R2 := Lib.hid (H4.out.row (b := b4) (cs := #[.bool false, .int .u64 0, .int .u64 0]) (t := 31) (by simp))
  refine wp_region_noPanic ?_
  refine wp_region_held_drew (S := fun wq => wq.cell? ⟨b1, 0, none⟩ = some (.bool false) ∧ wq.cell? ⟨b1, 1, none⟩ = some (.int .u64 X) ∧ wq.cell? ⟨b1, 2, none⟩ = some (.int .u64 Y) ∧ HR w wq [(b2, #[.bool false, .int .u64 A, .int .u64 B], 31), (b1, #[.bool false, .int .u64 X, .int .u64 Y], 31)]) (by kernel_rfl) ?_ (fun hHeld => ?_)
  · exact ⟨HR.cell (HR.like H7.out rfl rfl rfl rfl) (b := b1) (cs := #[.bool false, .int .u64 X, .int .u64 Y]) (t := 31) (by simp) 0 rfl, HR.cell (HR.like H7.out rfl rfl rfl rfl) (b := b1) (cs := #[.bool false, .int .u64 X, .int .u64 Y]) (t := 31) (by simp) 1 rfl, HR.cell (HR.like H7.out rfl rfl rfl rfl) (b := b1) (cs := #[.bool false, .int .u64 X, .int .u64 Y]) (t := 31) (by simp) 2 rfl, (HR.like H7.out rfl rfl rfl rfl)⟩
  refine tk 0 hHeld ?_; refine tk 1 hHeld ?_; refine tk 2 hHeld ?_; refine tk 3 hHeld ?_; refine tk 4 hHeld ?_; refine tk 7 hHeld ?_; refine tk 8 hHeld ?_
  refine stepH 5 (by kernel_rfl) rfl (by rfl) (fun K hK => ?_)
  go_simp
  refine (r3Less _ _ (by omega) (by omega) _).mono ?_
  rintro e wq' ⟨rfl, nq1, rfl⟩
  refine hK.out _ _ ?_ (fun hHeld => ?_)
  · exact ⟨HR.cell (HR.like hHeld.2.2.2 rfl rfl rfl rfl) (b := b1) (cs := #[.bool false, .int .u64 X, .int .u64 Y]) (t := 31) (by simp) 0 rfl, HR.cell (HR.like hHeld.2.2.2 rfl rfl rfl rfl) (b := b1) (cs := #[.bool false, .int .u64 X, .int .u64 Y]) (t := 31) (by simp) 1 rfl, HR.cell (HR.like hHeld.2.2.2 rfl rfl rfl rfl) (b := b1) (cs := #[.bool false, .int .u64 X, .int .u64 Y]) (t := 31) (by simp) 2 rfl, (HR.like hHeld.2.2.2 rfl rfl rfl rfl)⟩
  clear hK K
  try simp only [Act.put, List.setIfInBounds_toArray, List.set_cons_zero, List.set_cons_succ]
  refine stepH 6 (by kernel_rfl) rfl (by rfl) (fun K hK => ?_)
  go_simp
  refine (r3Mul _ _ (by omega) (by omega) _).mono ?_
  rintro e wq' ⟨rfl, nq2, rfl⟩
  refine hK.out _ _ ?_ (fun hHeld => ?_)
  · exact ⟨HR.cell (HR.like hHeld.2.2.2 rfl rfl rfl rfl) (b := b1) (cs := #[.bool false, .int .u64 X, .int .u64 Y]) (t := 31) (by simp) 0 rfl, HR.cell (HR.like hHeld.2.2.2 rfl rfl rfl rfl) (b := b1) (cs := #[.bool false, .int .u64 X, .int .u64 Y]) (t := 31) (by simp) 1 rfl, HR.cell (HR.like hHeld.2.2.2 rfl rfl rfl rfl) (b := b1) (cs := #[.bool false, .int .u64 X, .int .u64 Y]) (t := 31) (by simp) 2 rfl, (HR.like hHeld.2.2.2 rfl rfl rfl rfl)⟩
  clear hK K
  try simp only [Act.put, List.setIfInBounds_toArray, List.set_cons_zero, List.set_cons_succ]
  refine stepH 9 (by kernel_rfl) rfl (by rfl) (fun K hK => ?_)
  go_simp
  refine (r3Less _ _ (by omega) (by omega) _).mono ?_
  rintro e wq' ⟨rfl, nq3, rfl⟩
  refine hK.out _ _ ?_ (fun hHeld => ?_)
  · exact ⟨HR.cell (HR.like hHeld.2.2.2 rfl rfl rfl rfl) (b := b1) (cs := #[.bool false, .int .u64 X, .int .u64 Y]) (t := 31) (by simp) 0 rfl, HR.cell (HR.like hHeld.2.2.2 rfl rfl rfl rfl) (b := b1) (cs := #[.bool false, .int .u64 X, .int .u64 Y]) (t := 31) (by simp) 1 rfl, HR.cell (HR.like hHeld.2.2.2 rfl rfl rfl rfl) (b := b1) (cs := #[.bool false, .int .u64 X, .int .u64 Y]) (t := 31) (by simp) 2 rfl, (HR.like hHeld.2.2.2 rfl rfl rfl rfl)⟩
  clear hK K
  try simp only [Act.put, List.setIfInBounds_toArray, List.set_cons_zero, List.set_cons_succ]
  refine tk 10 hHeld ?_
  have rc0 : ∀ n, (w4.drewN n).cell? ⟨b4, 0, none⟩ = some (.bool false) := fun n => (R2.out.drewN n).cell 0 rfl
  have rc1 : ∀ n, (w4.drewN n).cell? ⟨b4, 1, none⟩ = some (.int .u64 0) := fun n => (R2.out.drewN n).cell 1 rfl
  have rc2 : ∀ n, (w4.drewN n).cell? ⟨b4, 2, none⟩ = some (.int .u64 0) := fun n => (R2.out.drewN n).cell 2 rfl
  have rf0 : ∀ n, (w4.drewN n).frozen? ⟨b4, 0, none⟩ = false := fun n => (R2.out.drewN n).free 0
  have rf1 : ∀ n, (w4.drewN n).frozen? ⟨b4, 1, none⟩ = false := fun n => (R2.out.drewN n).free 1
  have rf2 : ∀ n, (w4.drewN n).frozen? ⟨b4, 2, none⟩ = false := fun n => (R2.out.drewN n).free 2
  refine stepH 11 (by kernel_rfl) rfl (by rfl) (fun K hK => ?_)
  go_simp
  refine hK.out _ _ ?_ (fun hHeld => ?_)
  · exact ⟨HR.cell (HR.other (HR.other (HR.other (H7.out.drewN _) (by simp; have := hbs.out; omega) (by have := hbs.out; omega)) (by simp; have := hbs.out; omega) (by have := hbs.out; omega)) (by simp; have := hbs.out; omega) (by have := hbs.out; omega)) (b := b1) (cs := #[.bool false, .int .u64 X, .int .u64 Y]) (t := 31) (by simp) 0 rfl, HR.cell (HR.other (HR.other (HR.other (H7.out.drewN _) (by simp; have := hbs.out; omega) (by have := hbs.out; omega)) (by simp; have := hbs.out; omega) (by have := hbs.out; omega)) (by simp; have := hbs.out; omega) (by have := hbs.out; omega)) (b := b1) (cs := #[.bool false, .int .u64 X, .int .u64 Y]) (t := 31) (by simp) 1 rfl, HR.cell (HR.other (HR.other (HR.other (H7.out.drewN _) (by simp; have := hbs.out; omega) (by have := hbs.out; omega)) (by simp; have := hbs.out; omega) (by have := hbs.out; omega)) (by simp; have := hbs.out; omega) (by have := hbs.out; omega)) (b := b1) (cs := #[.bool false, .int .u64 X, .int .u64 Y]) (t := 31) (by simp) 2 rfl, (HR.other (HR.other (HR.other (H7.out.drewN _) (by simp; have := hbs.out; omega) (by have := hbs.out; omega)) (by simp; have := hbs.out; omega) (by have := hbs.out; omega)) (by simp; have := hbs.out; omega) (by have := hbs.out; omega))⟩
  clear hK K
  try simp only [Act.put, List.setIfInBounds_toArray, List.set_cons_zero, List.set_cons_succ]
  refine wpAnyH_done (by kernel_rfl) (NoPanic.normal ?_) _
  have hL := Lib.hid hHeld.2.2.2.2
  clear hHeld rc0 rc1 rc2 rf0 rf1 rf2
  have s0 : ∀ n v0 v1 v2, ((((w4.drewN n).setCell ⟨b4, 0, none⟩ v0).setCell ⟨b4, 1, none⟩ v1).setCell ⟨b4, 2, none⟩ v2).cell? ⟨b4, 0, none⟩ = some v0 := fun n v0 v1 v2 => (R2.out.drewN n).set3.cell 0 rfl
  have s1 : ∀ n v0 v1 v2, ((((w4.drewN n).setCell ⟨b4, 0, none⟩ v0).setCell ⟨b4, 1, none⟩ v1).setCell ⟨b4, 2, none⟩ v2).cell? ⟨b4, 1, none⟩ = some v1 := fun n v0 v1 v2 => (R2.out.drewN n).set3.cell 1 rfl
  have s2 : ∀ n v0 v1 v2, ((((w4.drewN n).setCell ⟨b4, 0, none⟩ v0).setCell ⟨b4, 1, none⟩ v1).setCell ⟨b4, 2, none⟩ v2).cell? ⟨b4, 2, none⟩ = some v2 := fun n v0 v1 v2 => (R2.out.drewN n).set3.cell 2 rfl
  go_wp2_with fail
  refine bodyPost_ret (v := ptV false _ _) (by simp [results, Try.results84, go_sem, s0, s1, s2]; try exact ⟨rfl, rfl⟩) rfl ⟨?_, hL.out⟩
  unfold Obol.lineC
  simp only [hl.out]

theorem sumC_ss (p q : Nat × Nat) : Obol.sumC (.some p) (.some q) = if p.1 = q.1 ∧ Obol.addP p.2 q.2 = 0 then Option.none else .some (Obol.lineC (Obol.slopeC p q) p q) := rfl
theorem r3Sum (p q : Option (Nat × Nat)) (i : Bool) (X Y : Int) (j : Bool) (A B : Int) (hp : IsO p i X Y) (hq : IsO q j A B) (w : World) :
    Calls Try.prog 84 #[ptV i X Y, ptV j A B] w (SumSaid (Obol.sumC p q) w) := by
  cases p with
  | none =>
    obtain ⟨rfl, rfl, rfl⟩ := hp
    exact (r3SumI j A B w).mono fun e w' ⟨h1, h2⟩ => ⟨⟨j, A, B, hq, h1⟩, h2⟩
  | some p =>
    cases q with
    | none =>
      obtain ⟨rfl, rfl, rfl⟩ := hp
      obtain ⟨rfl, rfl, rfl⟩ := hq
      exact (r3SumJ _ _ w).mono fun e w' ⟨h1, h2⟩ => ⟨⟨false, _, _, ⟨rfl, rfl, rfl⟩, h1⟩, h2⟩
    | some q =>
      obtain ⟨rfl, rfl, rfl⟩ := hp
      obtain ⟨rfl, rfl, rfl⟩ := hq
      have key : ∀ (_ : ¬ (p.1 = q.1 ∧ Obol.addP p.2 q.2 = 0)) (_ : ∀ w, Calls Try.prog 94 #[ptV false (p.1 : Nat) (p.2 : Nat), ptV false (q.1 : Nat) (q.2 : Nat)] w fun e w' => e = .returned (.bool false) ∧ Below w.heap.size w w'),
          Calls Try.prog 84 #[ptV false (p.1 : Nat) (p.2 : Nat), ptV false (q.1 : Nat) (q.2 : Nat)] w (SumSaid (Obol.sumC (.some p) (.some q)) w) := fun hn hw =>
        (r3SumL _ _ _ _ (by omega) (by omega) (by omega) (by omega) hw w).mono fun e w' ⟨h1, h2⟩ => by
          refine ⟨⟨false, _, _, ?_, h1⟩, h2⟩
          rw [sumC_ss, if_neg hn]
          simp only [Int.toNat_natCast]
          exact ⟨rfl, rfl, rfl⟩
      by_cases hx : p.1 = q.1
      · by_cases hs : Obol.addP p.2 q.2 = 0
        · refine (r3SumW _ _ _ _ (fun w => ?_) w).mono fun e w' ⟨h1, h2⟩ => ⟨⟨true, 0, 0, ?_, h1⟩, h2⟩
          · rw [← hx]
            exact r3WallY _ _ _ _ (by omega) (by omega) (by omega : (0 : Int) ≤ 0) (by omega) w (by rw [Int.toNat_natCast, Int.toNat_natCast]; exact hs)
          · rw [sumC_ss, if_pos ⟨hx, hs⟩]
            exact ⟨rfl, rfl, rfl⟩
        · refine key (fun h => hs h.2) (fun w => ?_)
          rw [← hx]
          exact r3WallS _ _ _ _ (by omega) (by omega) (by omega : (0 : Int) ≤ 0) (by omega) w (Obol.addP p.2 q.2) (by rw [Int.toNat_natCast, Int.toNat_natCast]) hs
      · exact key (fun h => hx h.1) (fun w => r3WallN _ _ _ _ (by omega) (by omega) (by omega) (by omega) w (by omega))

end Go.Proofs.Ytkfimfjjmdjbdaa
/- Walks: the reference of layer 19: roots, points, numbers of bytes. -/
namespace Go.Proofs.Ytkfimfjjmdjbdaa
open Go.RowKit
set_option linter.unusedVariables false
set_option linter.unusedSimpArgs false

theorem quiet0 {P : Program} {f : FuncId} {args : Array Value} {W : World} {E : Ending} (h : Calls P f args W fun e w' => e = E ∧ w' = W) : Calls P f args W fun e w' => e = E ∧ ∃ n, w' = W.drewN n :=
  h.mono fun e w' h => ⟨h.1, 0, h.2⟩
/-- A root, or that there is none. -/
def RtI (a : Nat) (w : World) (e : Ending) (w' : World) : Prop := (Obol.sqB a = false ∧ e = .returned (.tuple #[.int .u64 0, .bool false]) ∨ Obol.sqB a = true ∧ ∃ X : Int, 0 ≤ X ∧ X.toNat < Obol.R ∧ X.toNat * X.toNat % Obol.R = a % Obol.R ∧ e = .returned (.tuple #[.int .u64 X, .bool true])) ∧ ∃ n, w' = w.drewN n
set_option maxHeartbeats 4000000 in
theorem r19Root (a : Int) (ha : 0 ≤ a) (w : World) : Calls Try.prog 64 #[.int .u64 a] w (RtI a.toNat w) := by
  have hS0 := fun W => quiet0 (r1Square a ha W)
  have e1 : a.tmod 288230376287764481 = a % 288230376287764481 := Int.tmod_eq_emod_of_nonneg ha
  have hmod : a.toNat % Obol.R = (a % 288230376287764481).toNat := by rw [Obol.R_def]; omega
  cases hs : Obol.sqB a.toNat with
  | false =>
    rw [hs] at hS0
    have hS := Lib.hid hS0
    have hH := Lib.hid hs
    clear hS0 hs hmod e1
    go_enter Try.func64, Try.ntmps64
    go_wp2_with (go_at_call 86; refine (hS.out _).mono ?_; rintro e w' ⟨rfl, n0, rfl⟩)
    go_ret2
    exact ⟨.inl ⟨hH.out, rfl⟩, _, rfl⟩
  | true =>
    rw [hs] at hS0
    have hS := Lib.hid hS0
    have hH := Lib.hid hs
    by_cases h0 : a % 288230376287764481 = 0
    · have hX : Hid (a.toNat % Obol.R = 0) := Lib.hid (by rw [hmod, h0]; rfl)
      clear hS0 hs hmod
      go_enter Try.func64, Try.ntmps64
      go_wp2_with (go_at_call 86; refine (hS.out _).mono ?_; rintro e w' ⟨rfl, n0, rfl⟩)
      go_ret2
      exact ⟨.inr ⟨hH.out, 0, by omega, by rw [Obol.R_def]; decide, by rw [hX.out]; rfl, rfl⟩, _, rfl⟩
    · have hz : (a % 288230376287764481 == 0) = false := beq_eq_false_iff_ne.2 h0
      have hsq : a.toNat ^ ((Obol.R - 1) / 2) % Obol.R = 1 := by
        unfold Obol.sqB at hs
        have : (a.toNat % Obol.R == 0) = false := by rw [beq_eq_false_iff_ne, hmod]; omega
        rw [this, Bool.false_or] at hs
        simpa using hs
      have I0 := Obol.TonI.start hsq
      have P1 := fun W => quiet0 (r1Pow 288230376287764481 a 549755814148 (by omega) (by omega) ha (by omega) (by omega) W)
      have P2 := fun W => quiet0 (r1Pow 288230376287764481 a 1099511628295 (by omega) (by omega) ha (by omega) (by omega) W)
      have P3 := fun W => quiet0 (r1Pow 288230376287764481 3 1099511628295 (by omega) (by omega) (by omega) (by omega) (by omega) W)
      have l1 : (1099511628295 : Int).toNat = Obol.oddR := by decide +kernel
      have l2 : (549755814148 : Int).toNat = Obol.oddH := by decide +kernel
      rw [litR, l2, Obol.powM, ← Obol.powR_eq] at P1
      rw [litR, l1, Obol.powM, ← Obol.powR_eq] at P2
      rw [litR, l1, lit3, Obol.powM, ← Obol.powR_eq] at P3
      generalize ((Obol.powR 3 Obol.oddR : Nat) : Int) = c at I0 P3
      generalize ((Obol.powR a.toNat Obol.oddR : Nat) : Int) = t at I0 P2
      generalize ((Obol.powR a.toNat Obol.oddH : Nat) : Int) = x at I0 P1
      replace I0 := Lib.hid I0
      replace P1 := Lib.hid P1
      replace P2 := Lib.hid P2
      replace P3 := Lib.hid P3
      clear hS0 hs hmod hsq l1 l2
      replace h0 := Lib.hid h0
      go_enter Try.func64, Try.ntmps64
      go_wp2_with (first
        | (go_at_call 86; refine (hS.out _).mono ?_; rintro e w' ⟨rfl, n0, rfl⟩)
        | (go_at_call_of 87 (Value.int IntKind.u64 549755814148); refine (P1.out _).mono ?_; rintro e w' ⟨rfl, n1, rfl⟩)
        | (go_at_call_of 87 (Value.int IntKind.u64 3); refine (P3.out _).mono ?_; rintro e w' ⟨rfl, n3, rfl⟩)
        | (go_at_call_of 87 (Value.int IntKind.u64 1099511628295); refine (P2.out _).mono ?_; rintro e w' ⟨rfl, n2, rfl⟩))
      clear hS P1 P2 P3 e1 hz
      go_loopw [6, 7, 8, 9] (fun q1 q2 q3 q4 wr => ∃ x t c k : Int, q1 = .int .u64 x ∧ q2 = .int .u64 t ∧ q3 = .int .u64 c ∧ q4 = .int .i64 k ∧ Hid (Obol.TonI a.toNat c t x k) ∧ ∃ n, wr = w.drewN n) (fun _ _ _ q4 _ => (18 - intOf q4).toNat)
      case atStart => exact ⟨x, t, c, 1, rfl, rfl, rfl, rfl, I0, _, rfl⟩
      case round =>
        clear I0
        obtain ⟨x, t, c, k, rfl, rfl, rfl, rfl, HI, n, rfl⟩ := hrel
        have i1 := HI.out.c0
        have i2 := HI.out.t0
        have i3 := HI.out.x0
        have i4 := HI.out.k0
        have i5 := HI.out.k1
        by_cases hk : k ≤ 17
        · have B0 := Lib.hid (HI.out.inner hk)
          go_wp2_with fail
          go_loopw [10, 11] (fun q1 q2 wr => ∃ p j : Int, q1 = .int .u64 p ∧ q2 = .int .i64 j ∧ Hid (Obol.RootB t.toNat (17 - k) p j) ∧ ∃ n, wr = w.drewN n) (fun _ q2 _ => (17 - intOf q2).toNat)
          case atStart => exact ⟨t, 0, rfl, rfl, B0, _, rfl⟩
          case round =>
            clear B0
            obtain ⟨p, j, rfl, rfl, HB, n, rfl⟩ := hrel
            have l0 := HB.out.j0
            have l1 := HB.out.j1
            have l2 := HB.out.b0
            by_cases hj : j < 17 - k
            · have HN := Lib.hid (HB.out.step hj)
              go_wp2_with (go_at_call 79; refine (r7Mul _ _ (by omega) (by omega) _).mono ?_; rintro e w' ⟨rfl, n', rfl⟩)
              go_roundw
              case rel => exact ⟨_, _, rfl, rfl, HN, _, rfl⟩
              case measure => simp [intOf]; omega
            · by_cases hp : p = 1
              · subst hp
                have HN := Lib.hid (HI.out.one hk HB.out hj)
                go_wp2_with (go_at_call 79; refine (r7Mul _ _ (by omega) (by omega) _).mono ?_; rintro e w' ⟨rfl, n', rfl⟩)
                go_roundw
                case rel => exact ⟨_, _, _, _, rfl, rfl, rfl, rfl, HN, _, rfl⟩
                case measure => simp [intOf]; omega
              · have HN := Lib.hid (HI.out.other hk HB.out hj hp)
                have hpb : (p != 1) = true := bne_iff_ne.2 hp
                replace hp := Lib.hid hp
                go_wp2_with (go_at_call 79; refine (r7Mul _ _ (by omega) (by omega) _).mono ?_; rintro e w' ⟨rfl, n', rfl⟩)
                go_roundw
                case rel => exact ⟨_, _, _, _, rfl, rfl, rfl, rfl, HN, _, rfl⟩
                case measure => simp [intOf]; omega
        · have HD := Lib.hid (HI.out.done hk)
          go_wp2_with fail
          go_ret2
          exact ⟨.inr ⟨hH.out, x, i3, HD.out.1, HD.out.2, rfl⟩, _, rfl⟩

end Go.Proofs.Ytkfimfjjmdjbdaa
/- Walks: the reference of layer 19: numbers of bytes, how many bytes there are. -/
namespace Go.Proofs.Ytkfimfjjmdjbdaa
open Go.RowKit
set_option linter.unusedVariables false
set_option linter.unusedSimpArgs false

/-- The bytes of a slice, at a place. -/
def numAt (L : List Nat) (k : Nat) : Nat := Obol.num8 ((L.drop k).take 8)
theorem b8_at {L : List Nat} {k : Nat} (h : k + 8 ≤ L.length) (hb : ∀ i, L.getD i 0 < 256) : B8 8 ((L.drop k).take 8) :=
  ⟨by rw [List.length_take, List.length_drop]; omega, fun i => by
    rw [Obol.gd_take]
    split
    · rw [Obol.gd_drop]; exact hb _
    · omega⟩
theorem bl_at {w : World} {b o : Nat} {L : List Nat} (h : BL w b o L) (k n : Nat) (hk : k + n ≤ L.length) : BL w b (o + k) ((L.drop k).take n) := fun i hi => by
  have hi2 : i < n := by rw [List.length_take] at hi; omega
  rw [Obol.gd_take, if_pos hi2, Obol.gd_drop, Nat.add_assoc]
  exact h (k + i) (by omega)
theorem slice_part (b o len c l : Nat) (n : Nat) (hn : 0 < n) (h2 : l + n ≤ c) (W : World) :
    (Instr.slice 26 (.slice (some ⟨b, o, none⟩) len c) (some (.int .i64 (l : Int))) (some (.int .i64 ((l : Int) + (n : Int)))) none).run Try.prog W = .ok (.slice (some ⟨b, o + l, none⟩) n (c - l)) W := by
  have e2 : Try.prog.elem 26 = 5 := by simp [Program.elem, Try.underlying26]
  obtain ⟨i, hi, _, hs, _⟩ := info_parts info8
  rw [run_slice_lh W 26 _ _ _ (by rw [e2]; exact Try.underlying26) .i64 .i64 l ((l : Int) + (n : Int)) (by omega) (by omega) (by omega), e2]
  simp [Go.sizeOf, typeInfo, hi, hs, Result.andThen, sliced]
  have : c ≠ l := by omega
  simp [this, addB]
  omega
theorem r19Number (b o c : Nat) (L : List Nat) (len : Nat) (hl : L.length = len) (k : Nat) (hk : k + 8 ≤ len) (hc : len ≤ c) (hc2 : c ≤ 9223372036854775807) (hb : ∀ i, L.getD i 0 < 256) (w : World) (hBL : BL w b o L) :
    Calls Try.prog 44 #[.slice (some ⟨b, o, none⟩) len c, .int .i64 (k : Int)] w fun e w' => e = .returned (.int .u64 ((numAt L k : Nat) : Int)) ∧ w' = w := by
  have hs := fun W => slice_part b o len c k 8 (by omega) (by omega) W
  have c2 := Lib.hid (r2Number b (o + k) (c - k) _ (b8_at (by omega) hb) w (bl_at hBL k 8 (by omega)))
  have k0 : 0 ≤ (k : Int) := by omega
  have k1 : (k : Int) + 8 ≤ 9223372036854775807 := by omega
  clear hBL hb
  go_enter Try.func44, Try.ntmps44
  go_wp2_with (go_at_call 63; refine c2.out.mono ?_; rintro e w' ⟨rfl, hw⟩; subst hw)
  go_ret
  exact ⟨rfl, rfl⟩
theorem r19NumberN (b o c : Nat) (L : List Nat) (len : Nat) (hl : L.length = len) (k : Nat) (hk : k + 8 ≤ len) (hc : len ≤ c) (hc2 : c ≤ 9223372036854775807) (hb : ∀ i, L.getD i 0 < 256) (w : World) (hBL : BL w b o L) :
    Calls Try.prog 44 #[.slice (some ⟨b, o, none⟩) len c, .int .i64 (k : Int)] w fun e w' => e = .returned (.int .u64 ((numAt L k : Nat) : Int)) ∧ Below w.heap.size w w' :=
  (r19Number b o c L len hl k hk hc hc2 hb w hBL).mono fun e w' h => ⟨h.1, by rw [h.2]; exact Below.refl _ _⟩
/-- Where the k-th point of a proof begins. -/
def posL (L : List Nat) : Nat → Nat
  | 0 => 176
  | j + 1 => posL L j + (if L.getD (posL L j) 0 = 1 then 17 else 1)
theorem posL_le (L : List Nat) (j : Nat) : posL L j ≤ 176 + 17 * j ∧ 176 + j ≤ posL L j := by
  induction j with
  | zero => exact ⟨Nat.le_refl _, Nat.le_refl _⟩
  | succ j ih =>
    unfold posL
    split <;> omega
theorem posL_mono (L : List Nat) (j : Nat) : posL L j < posL L (j + 1) := by
  rw [show posL L (j + 1) = posL L j + (if L.getD (posL L j) 0 = 1 then 17 else 1) from rfl]
  split <;> omega
theorem posL_mono3 (L : List Nat) {j : Nat} (h : j < 3) : posL L j < posL L 3 := by
  have h0 : posL L 0 < posL L 1 := posL_mono L 0
  have h1 : posL L 1 < posL L 2 := posL_mono L 1
  have h2 : posL L 2 < posL L 3 := posL_mono L 2
  match j, h with
  | 0, _ => omega
  | 1, _ => omega
  | 2, _ => omega
/-- How many bytes there are. -/
def sizI (L : List Nat) (w : World) (e : Ending) (w' : World) : Prop := e = .returned (.int .i64 (if posL L 3 + 16 ≤ L.length then ((posL L 3 : Nat) : Int) + 16 else -1)) ∧ w' = w
set_option maxHeartbeats 2000000 in
theorem r19Size (base : Nat) (ao : Option Addr) (n c : Nat) (L : List Nat) (hn : L.length = n) (hn2 : n ≤ 1000000) (hb : ∀ i, L.getD i 0 < 256) (w : World) (hS : SlI base w ao c L) : Calls Try.prog 43 #[.slice ao n c] w (sizI L w) := by
  subst hn
  have S := Lib.hid hS
  have hB := Lib.hid hb
  have hni : (L.length : Int) ≤ 1000000 := by omega
  clear hS hb
  go_enter Try.func43, Try.ntmps43
  go_wp2_with fail
  go_loopw [3, 4] (fun q1 q2 wr => ∃ (j : Nat) (p : Int), j ≤ 3 ∧ q1 = .int .i64 p ∧ q2 = .int .i64 (j : Int) ∧ Hid (p = ((posL L j : Nat) : Int)) ∧ wr = w) (fun _ q2 _ => (3 - intOf q2).toNat)
  case atStart => exact ⟨0, 176, by omega, rfl, rfl, Lib.hid rfl, rfl⟩
  case round =>
    obtain ⟨j, p, hj, rfl, rfl, hp, hw⟩ := hrel
    subst hw
    have hpl := posL_le L j
    have p0 : 0 ≤ p := by have := hp.out; omega
    have p1 : p ≤ 400 := by have := hp.out; omega
    by_cases hj3 : j < 3
    · have hj3i : (j : Int) < 3 := by omega
      have hpm := Lib.hid (posL_mono3 L hj3)
      by_cases hpn : p < (L.length : Int)
      · obtain ⟨b, o, rfl, _, hBL⟩ := S.out.bl (by omega)
        obtain ⟨v, hv, hvd, v0, v1⟩ := hBL.at ⟨rfl, hB.out⟩ p0 hpn
        have hNs : posL L (j + 1) = posL L j + (if L.getD (posL L j) 0 = 1 then 17 else 1) := rfl
        have ep : p.toNat = posL L j := by have := hp.out; omega
        by_cases hv1 : v = 1
        · subst hv1
          have HN : Hid (p + 17 = ((posL L (j + 1) : Nat) : Int)) := Lib.hid (by rw [hNs, ← ep, if_pos (by omega)]; omega)
          clear hNs ep hvd hpl hBL
          replace hp := Lib.hid hp.out
          go_wp2_with fail
          go_roundw
          case rel => exact ⟨j + 1, _, by omega, rfl, by simp, HN, (by first | rfl | trivial)⟩
          case measure => simp [intOf]; omega
        · have HN : Hid (p + 1 = ((posL L (j + 1) : Nat) : Int)) := Lib.hid (by rw [hNs, ← ep, if_neg (by omega)]; omega)
          have hv1b : (v == 1) = false := beq_eq_false_iff_ne.2 hv1
          clear hNs ep hvd hpl hBL
          go_wp2_with fail
          go_roundw
          case rel => exact ⟨j + 1, _, by omega, rfl, by simp, HN, (by first | rfl | trivial)⟩
          case measure => simp [intOf]; omega
      · have hX : Hid ((if posL L 3 + 16 ≤ L.length then ((posL L 3 : Nat) : Int) + 16 else -1) = -1) := Lib.hid (if_neg (by have := hp.out; have := hpm.out; omega))
        have hge : (L.length : Int) ≤ p := by omega
        clear hpl hpm
        go_wp2_with fail
        go_ret
        exact ⟨by rw [hX.out]; rfl, rfl⟩
    · obtain rfl : j = 3 := by omega
      by_cases hf : posL L 3 + 16 ≤ L.length
      · have hX : Hid ((if posL L 3 + 16 ≤ L.length then ((posL L 3 : Nat) : Int) + 16 else -1) = p + 16) := Lib.hid (by rw [if_pos hf, hp.out])
        have hfi : ¬ (L.length : Int) < p + 16 := by have := hp.out; omega
        clear hpl hf
        go_wp2_with fail
        go_ret
        exact ⟨by rw [hX.out]; rfl, rfl⟩
      · have hX : Hid ((if posL L 3 + 16 ≤ L.length then ((posL L 3 : Nat) : Int) + 16 else -1) = -1) := Lib.hid (if_neg hf)
        have hfi : (L.length : Int) < p + 16 := by have := hp.out; omega
        clear hpl hf
        go_wp2_with fail
        go_ret
        exact ⟨by rw [hX.out]; rfl, rfl⟩

end Go.Proofs.Ytkfimfjjmdjbdaa
