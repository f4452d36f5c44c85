import Derived.Test.YtkfimfjjmdjbdaaUv
import Derived.Test.YtkfimfjjmdjbdaaUs
set_option linter.unusedVariables false
set_option linter.unusedSimpArgs false
set_option linter.unusedSectionVars false
/- Walks: the law TxStays. -/
namespace Go.Proofs.Ytkfimfjjmdjbdaa
open Go.RowKit
set_option linter.unusedVariables false
set_option linter.unusedSimpArgs false

theorem own_drew8 {w : World} {base : Nat} {v : Value} {L : List Nat} (h : OwnB w base v L) : OwnB w.drew base v L := h
/-- What was read twice is the same. -/
theorem sameOf {L : List Nat} {u v : TxD} {M0 M1 K0 K1 : List Nat} {z y : Obol.Rs} {g0 g1 h0 h1 b1 b2 : Nat} {z0 z1 y0 y1 Zu Zv : Array Value} {E1 E2 : Value} (fC1 : RdC L u M0 M1 z) (fC2 : RdC L v K0 K1 y)
    (fB1 : RdB b1 u M0 M1 g0 g1 z0 z1) (fB2 : RdB b2 v K0 K1 h0 h1 y0 y1) (fE1 : RdE u z Zu E1) (fE2 : RdE v y Zv E2) :
    (∀ W : World, Row W g0 z0 5 → Row W g1 z1 5 → Row W h0 y0 5 → Row W h1 y1 5 → Calls Try.prog 18 #[.agg Zu, .agg Zv] W fun e w' => e = .returned (.bool true) ∧ Below W.heap.size W w') ∧
      ((E1 = .nilIface ∧ E2 = .nilIface) ∨ ∃ k : Int, E1 = errV k ∧ E2 = errV k) := by
  obtain ⟨hal, rfl, rfl, rfl⟩ := fC1.det fC2
  have hm : mayB u = mayB v := hal.may (fB1.l0.trans fB2.l0.symm) (fB1.l1.trans fB2.l1.symm)
  have nil9 : ∀ W : World, SlI W.heap.size W none 0 [] := fun W => ⟨Nat.le_refl _, by decide, fun _ => ⟨rfl, rfl⟩, fun h => by simp at h⟩
  have hz : ∀ W : World, Calls Try.prog 18 #[.agg zC, .agg zC] W fun e w' => e = .returned (.bool true) ∧ Below W.heap.size W w' := fun W => lSame zD none 0 0 none 0 0 [] [] W ⟨rfl, rfl, rfl, rfl⟩ (nil9 W) (nil9 W) (nil9 W) (nil9 W)
  rcases fE1 with ⟨a1, rfl, rfl⟩ | ⟨a1, a2, a3, rfl, rfl⟩ | ⟨a1, a2, a3, rfl, rfl⟩
  · have e := fE2.less (by rw [← hm]; exact a1)
    rcases fE2 with ⟨_, rfl, _⟩ | ⟨c1, c2, _, _, _⟩ | ⟨c1, c2, _, _, _⟩
    · exact ⟨fun W _ _ _ _ => hz W, .inr ⟨3, rfl, e⟩⟩
    · rw [hm] at a1; rcases a1 with h | h
      · rw [c1] at h; cases h
      · rw [c2] at h; cases h
    · rw [hm] at a1; rcases a1 with h | h
      · rw [c1] at h; cases h
      · rw [c2] at h; cases h
  · rcases fE2 with ⟨h, _, _⟩ | ⟨_, _, _, rfl, rfl⟩ | ⟨_, _, c3, _, _⟩
    · rcases h with h | h
      · rw [a1] at h; cases h
      · rw [← hm, a2] at h; cases h
    · exact ⟨fun W _ _ _ _ => hz W, .inr ⟨4, rfl, rfl⟩⟩
    · rw [c3] at a3; simp at a3
  · rcases fE2 with ⟨h, _, _⟩ | ⟨_, _, c3, _, _⟩ | ⟨_, _, _, rfl, rfl⟩
    · rcases h with h | h
      · rw [a1] at h; cases h
      · rw [← hm, a2] at h; cases h
    · rw [a3] at c3; simp at c3
    · refine ⟨fun W r0 r1 q0 q1 => ?_, .inl ⟨rfl, rfl⟩⟩
      have bu := fB1.bods r0 r1
      have bv := fB2.bods q0 q1
      have c := lSame u v.s0 v.l0 v.c0 v.s1 v.l1 v.c1 _ _ W ⟨bu.n0, bu.n1, bv.n0, bv.n1⟩ bu.b0 bu.b1 bv.b0 bv.b1
      rw [← hal.symm.eq] at c
      exact c
set_option maxRecDepth 100000 in
set_option maxHeartbeats 8000000 in
theorem walkTSL (w : World) (t : TxD) (ao : Option Addr) (len cap : Nat) (hl : ¬ (t.l0 < 200 ∧ t.l1 < 200)) : Calls Try.prog 6 #[txV t, .slice ao len cap] w fun e w' => e = .returned (.bool true) ∧ Below w.heap.size w w' := by
  have hq : (decide (t.l0 < 200) && decide (t.l1 < 200)) = false := by
    by_cases h0 : t.l0 < 200
    · rw [decide_eq_true h0, decide_eq_false (fun h => hl ⟨h0, h⟩)]; rfl
    · rw [decide_eq_false h0]; rfl
  have cL := Lib.hid (lLight t)
  rw [hq] at cL
  clear hl hq
  go_enter Try.func6, Try.ntmps6
  have und := Try.underlying37
  go_upto_region 1 with fail
  have H1 := Lib.hid ((HR.refl w).new (txC t) 37)
  generalize w.alloc (.cells (txC t) 37) = w1 at H1 ⊢
  generalize hb1 : w.heap.size = b1 at H1 ⊢
  have hbs := Lib.hid hb1
  clear hb1
  go_wp2_with fail
  refine (up19 _).mono ?_
  rintro e w2 ⟨rfl, hb⟩
  have H2 := Lib.hid (H1.out.next hb)
  clear hb H1
  have RT := Lib.hid (H2.out.row (b := b1) (cs := txC t) (t := 37) (by simp))
  go_wp2_with (refine wpList_load_row rfl _ _ rfl b1 rfl 37 (txC t) (0, 0) _ RT.out und rfl sizTX ?_)
  refine (cL.out _).mono ?_
  rintro e w3 ⟨rfl, hb⟩
  have H3 := Lib.hid (H2.out.next hb)
  clear RT hb H2
  go_wp2_with fail
  go_ret
  exact ⟨by simp, H3.out.2⟩
set_option maxRecDepth 100000 in
set_option maxHeartbeats 8000000 in
theorem walkTSM (w : World) (t : TxD) (ao : Option Addr) (len cap : Nat) (hl : t.l0 < 200 ∧ t.l1 < 200) (hb : 2000 < len) : Calls Try.prog 6 #[txV t, .slice ao len cap] w fun e w' => e = .returned (.bool true) ∧ Below w.heap.size w w' := by
  have hq : (decide (t.l0 < 200) && decide (t.l1 < 200)) = true := by rw [decide_eq_true hl.1, decide_eq_true hl.2]; rfl
  have cL := Lib.hid (lLight t)
  rw [hq] at cL
  have hl1 : (2000 : Int) < (len : Int) := by omega
  clear hl hq hb
  go_enter Try.func6, Try.ntmps6
  have und := Try.underlying37
  go_upto_region 1 with fail
  have H1 := Lib.hid ((HR.refl w).new (txC t) 37)
  generalize w.alloc (.cells (txC t) 37) = w1 at H1 ⊢
  generalize hb1 : w.heap.size = b1 at H1 ⊢
  have hbs := Lib.hid hb1
  clear hb1
  go_wp2_with fail
  refine (up19 _).mono ?_
  rintro e w2 ⟨rfl, hb⟩
  have H2 := Lib.hid (H1.out.next hb)
  clear hb H1
  have RT := Lib.hid (H2.out.row (b := b1) (cs := txC t) (t := 37) (by simp))
  go_wp2_with (refine wpList_load_row rfl _ _ rfl b1 rfl 37 (txC t) (0, 0) _ RT.out und rfl sizTX ?_)
  refine (cL.out _).mono ?_
  rintro e w3 ⟨rfl, hb⟩
  have H3 := Lib.hid (H2.out.next hb)
  clear RT hb H2
  go_wp2_with fail
  go_ret
  exact ⟨by simp, H3.out.2⟩
set_option maxRecDepth 100000 in
set_option maxHeartbeats 8000000 in
theorem walkTSN (w : World) (t : TxD) (ao : Option Addr) (len cap : Nat) (h : TxOk t) (hl : t.l0 < 200 ∧ t.l1 < 200) (hm : mayB t = false) (L0 L1 : List Nat) (hB : Bods t L0 L1 w.heap.size w) (L : List Nat) (x : Hid (B8 len L)) (S : Hid (SlI w.heap.size w ao cap L)) (hl2 : len ≤ 2000) : Calls Try.prog 6 #[txV t, .slice ao len cap] w fun e w' => e = .returned (.bool true) ∧ Below w.heap.size w w' := by
  have hq : (decide (t.l0 < 200) && decide (t.l1 < 200)) = true := by rw [decide_eq_true hl.1, decide_eq_true hl.2]; rfl
  have cL := Lib.hid (lLight t)
  rw [hq] at cL
  have cW := Lib.hid (fun W => tWriteN t h hm W)
  clear h hm
  have hBo := Lib.hid hB
  have hl1 : ¬ (2000 : Int) < (len : Int) := by omega
  clear hl hq hB
  go_enter Try.func6, Try.ntmps6
  have und := Try.underlying37
  go_upto_region 1 with fail
  have H1 := Lib.hid ((HR.refl w).new (txC t) 37)
  generalize w.alloc (.cells (txC t) 37) = w1 at H1 ⊢
  generalize hb1 : w.heap.size = b1 at H1 ⊢
  have hbs := Lib.hid hb1
  clear hb1
  go_wp2_with fail
  refine (up19 _).mono ?_
  rintro e w2 ⟨rfl, hb⟩
  have H2 := Lib.hid (H1.out.next hb)
  clear hb H1
  have RT := Lib.hid (H2.out.row (b := b1) (cs := txC t) (t := 37) (by simp))
  go_wp2_with (refine wpList_load_row rfl _ _ rfl b1 rfl 37 (txC t) (0, 0) _ RT.out und rfl sizTX ?_)
  refine (cL.out _).mono ?_
  rintro e w3 ⟨rfl, hb⟩
  have H3 := Lib.hid (H2.out.next hb)
  clear RT hb H2
  have hS1 := S.out.next9 H3.out.2
  obtain ⟨g, cap2, w5, hap, hO5, hbw5⟩ := append_copy w3 ao len cap L x.out.len (by omega) (fun h => by have := hS1.no h; rw [x.out.len] at this; exact this) (fun h => by
    obtain ⟨b, o, e1, _, e3⟩ := hS1.bl (by rw [x.out.len]; exact h)
    exact ⟨b, o, e1, e3⟩)
  clear hS1
  have hg1 : Hid (g ≠ b1 ∧ w.heap.size ≤ g ∧ g < w5.heap.size) := Lib.hid (by
    have h1 := own_ge hO5
    have h2 := H3.out.lt (b := b1) (cs := txC t) (t := 37) (by simp)
    have h3 := own_lt hO5
    have h4 := H3.out.2.size
    omega)
  have H5 := Lib.hid (H3.out.next hbw5)
  have O5 := Lib.hid hO5
  clear H3 hO5 hbw5
  go_upto_region 6 with (at_builtin; refine wpList_appended rfl _ _ _ _ rfl _ _ _ rfl rfl hap ?_)
  clear hap
  go_wp2_with fail
  refine (tReadO (some ⟨g, 0, none⟩) len cap2 L x.out.len x.out.lt _ (OwnB.sl9 O5.out).2).mono ?_
  rintro e w6 ⟨Zu, Eu, u, M0, M1, z, g0, g1, z0, z1, rfl, hC, hk, hB, hE, r0, r1, hb⟩
  have HA := Lib.hid (HR.add (HR.add (H5.out.next hb) r0) r1)
  obtain ⟨hZs0, hZ1, hZi⟩ := hE.size
  have hth : (w6.alloc (.cells zC 37)).there w6.heap.size 0 Zu.size := by rw [hZs0]; exact Row.newThere w6 zC 37
  have hZs := Lib.hid hZs0
  have fE1 := Lib.hid hE
  have fC1 := Lib.hid hC
  have fk1 := Lib.hid hk
  have fB1 := Lib.hid hB
  have BB := Lib.hid hb
  clear hZs0 hb r0 r1 hE hC hk hB
  go_upto_region 7 with (refine wpList_store_mid rfl _ _ _ rfl w6.heap.size 0 Zu rfl rfl hth hZi hZ1 ?_)
  have H7 := Lib.hid (HA.out.fill zC Zu 37 hZs.out)
  have BX1 := Lib.hid (((HR.refl _).next BB.out).fill zC Zu 37 hZs.out).2
  have hl6 := Lib.hid BB.out.size
  clear hth hZ1 hZi hZs HA BB
  generalize (w6.alloc (.cells zC 37)).setCells w6.heap.size 0 Zu.toList = w7 at H7 BX1 ⊢
  generalize w6.heap.size = b8 at H7 hl6 ⊢
  have O7 := Lib.hid (O5.out.below BX1.out)
  have k1 := own_conv9 O7.out
  have k2 := (S.out.next9 H7.out.2).convN x.out.len
  have ne7 : Hid (g ≠ b8 ∧ g ≠ g0 ∧ g ≠ g1) := Lib.hid (by have h1 := hg1.out; have h2 := hl6.out; have h3 := fB1.out.b0; have h4 := fB1.out.b1; omega)
  have HO7 : Hid (LoI w3.heap.size w7 g cap2 len 0) := Lib.hid ⟨by omega, by omega, L, x.out.len, x.out.lt, O7.out⟩
  clear O5 O7 BX1 hl6
  go_upto_region 9 with fail
  clear k1 k2
  go_loopw [11] (fun q wr => ∃ i : Int, q = .int .i64 i ∧ Hid (LoI w3.heap.size wr g cap2 (len) i) ∧ Hid (HR w wr [(b8, Zu, 37), (g1, z1, 5), (g0, z0, 5), (b1, txC t, 37)])) (fun q _ => (len) - (intOf q).toNat)
  case atStart => exact ⟨0, rfl, HO7, H7⟩
  case round =>
    clear HO7 H7
    obtain ⟨i, rfl, HL, HQ⟩ := hrel
    have i0 := HL.out.1
    have i1 := HL.out.2.1
    by_cases hi : i < ((len : Nat) : Int)
    · obtain ⟨x1, cv, fv, v0, v1, HN⟩ := HL.out.step hi
      replace HN := Lib.hid HN
      have HQ2 := Lib.hid (HQ.out.other (D := g) (o := i.toNat) (v := .int .u8 ((x1 + 1) % 256)) (by have := ne7.out; have := hg1.out; simp; omega) (by have := hg1.out; omega))
      clear HL HQ
      go_wp2_with fail
      go_roundw
      case rel => (first | exact ⟨_, rfl, HN, HQ2⟩ | (repeat apply Exists.intro; exact ⟨⟨_, rfl, HN, HQ2⟩, rfl⟩))
      case measure => (first | (simp [intOf]; omega) | (show (len) - (intOf (.int .i64 (i + 1))).toNat < (len) - (intOf (.int .i64 i)).toNat; simp [intOf]; omega))
    · obtain rfl : i = ((len : Nat) : Int) := by omega
      clear HL i0 i1 hi
      go_wp2_with fail
      refine (tReadO ao len cap L x.out.len x.out.lt _ (S.out.next9 HQ.out.2)).mono ?_
      rintro e w12 ⟨Zv, Ev, v, K0, K1, y, h0, h1, y0, y1, rfl, hC, hk, hB, hE, r0, r1, hb⟩
      have HA := Lib.hid (HR.add (HR.add (HQ.out.next hb) r0) r1)
      obtain ⟨hZs0, hZ1, hZi⟩ := hE.size
      have hth : (w12.alloc (.cells zC 37)).there w12.heap.size 0 Zv.size := by rw [hZs0]; exact Row.newThere w12 zC 37
      have hZs := Lib.hid hZs0
      have fE2 := Lib.hid hE
      have fC2 := Lib.hid hC
      have fk2 := Lib.hid hk
      have fB2 := Lib.hid hB
      have BB := Lib.hid hb
      clear hZs0 hb r0 r1 hE hC hk hB
      go_upto_region 13 with (refine wpList_store_mid rfl _ _ _ rfl w12.heap.size 0 Zv rfl rfl hth hZi hZ1 ?_)
      have H13 := Lib.hid (HA.out.fill zC Zv 37 hZs.out)
      have BX2 := Lib.hid (((HR.refl _).next BB.out).fill zC Zv 37 hZs.out).2
      clear hth hZ1 hZi hZs HA BB
      generalize (w12.alloc (.cells zC 37)).setCells w12.heap.size 0 Zv.toList = w13 at H13 BX2 ⊢
      generalize w12.heap.size = b12 at H13 ⊢
      have hsu := Lib.hid (fE1.out.size).2.2
      have hsv := Lib.hid (fE2.out.size).2.2
      obtain ⟨cS0, hEE⟩ := sameOf fC1.out fC2.out fB1.out fB2.out fE1.out fE2.out
      have cS := Lib.hid cS0
      clear cS0 HQ BX2 fE1 fE2 fC1 fC2 fk1 fk2
      have k14 := H13.out.cell (b := b1) (cs := txC t) (t := 37) (by simp) 14 rfl
      have z14 := (hBo.out.at H13.out.2).b0.convN (hBo.out.n0)
      go_upto_region 14 with fail
      clear k14 z14
      have RT := Lib.hid (H13.out.row (b := b1) (cs := txC t) (t := 37) (by simp))
      go_wp2_with (refine wpList_load_row rfl _ _ rfl b1 rfl 37 (txC t) (0, 0) _ RT.out und rfl sizTX ?_)
      refine (cW.out _).mono ?_
      rintro e w14 ⟨rfl, hb⟩
      have H14 := Lib.hid (H13.out.next hb)
      clear RT hb H13
      go_upto_region 16 with fail
      go_loopw [17] (fun q wr => q = .int .i64 0 ∧ Hid (HR w wr [(b12, Zv, 37), (h1, y1, 5), (h0, y0, 5), (b8, Zu, 37), (g1, z1, 5), (g0, z0, 5), (b1, txC t, 37)])) (fun _ _ => 0)
      case atStart => exact ⟨rfl, H14⟩
      case round =>
        clear H14
        obtain ⟨rfl, HP⟩ := hrel
        have RT := Lib.hid (HP.out.row (b := b1) (cs := txC t) (t := 37) (by simp))
        go_wp2_with (refine wpList_load_row rfl _ _ rfl b1 rfl 37 (txC t) (0, 0) _ RT.out und rfl sizTX ?_)
        refine (cW.out _).mono ?_
        rintro e w19 ⟨rfl, hb⟩
        have H19 := Lib.hid (HP.out.next hb)
        clear RT hb HP
        go_upto_region 20 with fail
        rcases hEE with ⟨rfl, rfl⟩ | ⟨k, rfl, rfl⟩
        · have hN := fun W => nilN19 W
          have hNe := fun W => neN19 W
          have hE := fun W => eqN19 W 1
          have hEe := fun W => neE19 W 1
          refine wp_region_noPanic ?_
          refine wp_region_held_drew (S := fun wq => wq.cell? ⟨b1, 14, none⟩ = some (.slice t.s0 t.l0 t.c0) ∧ (convert 26 9 (.slice t.s0 t.l0 t.c0)).run Try.prog wq = .ok (.string (strB L0)) wq ∧ HR w wq [(b12, Zv, 37), (h1, y1, 5), (h0, y0, 5), (b8, Zu, 37), (g1, z1, 5), (g0, z0, 5), (b1, txC t, 37)]) (by kernel_rfl) ?_ (fun hHeld => ?_)
          · exact ⟨HR.cell (HR.drew H19.out) (b := b1) (cs := txC t) (t := 37) (by simp) 14 rfl, (hBo.out.at (HR.drew H19.out).2).b0.convN hBo.out.n0, HR.drew H19.out⟩
          refine tk 0 hHeld ?_; refine tk 1 hHeld ?_; refine tk 2 hHeld ?_; refine tk 3 hHeld ?_; refine tk 4 hHeld ?_
          refine takeH 5 (fun _ _ _ _ _ h => h) (by kernel_rfl) hHeld rfl (by kernel_rfl) (by rfl) (v := .agg (Zu)) ?_ ?_
          · intro wz hz
            exact exec_load 37 _ rfl b8 rfl 37 (Zu) (0, 0) _ (hz.2.2.row (b := b8) (cs := Zu) (t := 37) (by simp)) und rfl hsu.out
          try simp only [Act.put, List.setIfInBounds_toArray, List.set_cons_zero, List.set_cons_succ]
          refine takeH 6 (fun _ _ _ _ _ h => h) (by kernel_rfl) hHeld rfl (by kernel_rfl) (by rfl) (v := .agg (Zv)) ?_ ?_
          · intro wz hz
            exact exec_load 37 _ rfl b12 rfl 37 (Zv) (0, 0) _ (hz.2.2.row (b := b12) (cs := Zv) (t := 37) (by simp)) und rfl hsv.out
          try simp only [Act.put, List.setIfInBounds_toArray, List.set_cons_zero, List.set_cons_succ]
          refine stepH 7 (by kernel_rfl) rfl (by rfl) (fun K hK => ?_)
          go_simp
          refine (cS.out _ (hHeld.2.2.row (b := g0) (cs := z0) (t := 5) (by simp)) (hHeld.2.2.row (b := g1) (cs := z1) (t := 5) (by simp)) (hHeld.2.2.row (b := h0) (cs := y0) (t := 5) (by simp)) (hHeld.2.2.row (b := h1) (cs := y1) (t := 5) (by simp))).mono ?_
          rintro e wc1 ⟨rfl, hbc1⟩
          refine hK.out _ _ ?_ (fun hHeld => ?_)
          · exact ⟨HR.cell (hHeld.2.2.next hbc1) (b := b1) (cs := txC t) (t := 37) (by simp) 14 rfl, (hBo.out.at (hHeld.2.2.next hbc1).2).b0.convN hBo.out.n0, hHeld.2.2.next hbc1⟩
          clear hK K
          try simp only [Act.put, List.setIfInBounds_toArray, List.set_cons_zero, List.set_cons_succ]
          refine tk 8 hHeld ?_; refine tk 9 hHeld ?_; refine tk 10 hHeld ?_; refine tk 11 hHeld ?_; refine tk 12 hHeld ?_; refine tk 13 hHeld ?_; refine tk 14 hHeld ?_; refine tk 15 hHeld ?_; refine tk 16 hHeld ?_; refine tk 17 hHeld ?_; refine tk 18 hHeld ?_; refine tk 19 hHeld ?_; refine tk 20 hHeld ?_; refine tk 21 hHeld ?_; refine tk 22 hHeld ?_; refine tk 23 hHeld ?_; refine tk 24 hHeld ?_; refine tk 25 hHeld ?_; refine tk 26 hHeld ?_; refine tk 27 hHeld ?_; refine tk 28 hHeld ?_; refine tk 29 hHeld ?_; refine tk 30 hHeld ?_; refine tk 31 hHeld ?_; refine tk 32 hHeld ?_; refine tk 33 hHeld ?_; refine tk 34 hHeld ?_; refine tk 35 hHeld ?_; refine sk 36 hHeld ?_; refine sk 37 hHeld ?_; refine sk 38 hHeld ?_; refine sk 39 hHeld ?_; refine sk 40 hHeld ?_; refine sk 41 hHeld ?_; refine tk 42 hHeld ?_; refine tk 43 hHeld ?_; refine tk 44 hHeld ?_
          refine wpAnyH_done (by kernel_rfl) (NoPanic.normal ?_) _
          have HL := Lib.hid hHeld.2.2
          clear hHeld
          go_wp2_with fail
          go_ret
          exact ⟨by simp, HL.out.2⟩
        · have hN := fun W => nilN19 W
          have hNe := fun W => neN19 W
          have hE := fun W => eqN19 W 1
          have hEk := fun W => eqN19 W k
          have hEe := fun W => neE19 W 1
          refine wp_region_noPanic ?_
          refine wp_region_held_drew (S := fun wq => wq.cell? ⟨b1, 14, none⟩ = some (.slice t.s0 t.l0 t.c0) ∧ (convert 26 9 (.slice t.s0 t.l0 t.c0)).run Try.prog wq = .ok (.string (strB L0)) wq ∧ HR w wq [(b12, Zv, 37), (h1, y1, 5), (h0, y0, 5), (b8, Zu, 37), (g1, z1, 5), (g0, z0, 5), (b1, txC t, 37)]) (by kernel_rfl) ?_ (fun hHeld => ?_)
          · exact ⟨HR.cell (HR.drew H19.out) (b := b1) (cs := txC t) (t := 37) (by simp) 14 rfl, (hBo.out.at (HR.drew H19.out).2).b0.convN hBo.out.n0, HR.drew H19.out⟩
          refine tk 0 hHeld ?_; refine tk 1 hHeld ?_; refine tk 2 hHeld ?_; refine tk 3 hHeld ?_; refine tk 4 hHeld ?_
          refine takeH 5 (fun _ _ _ _ _ h => h) (by kernel_rfl) hHeld rfl (by kernel_rfl) (by rfl) (v := .agg (Zu)) ?_ ?_
          · intro wz hz
            exact exec_load 37 _ rfl b8 rfl 37 (Zu) (0, 0) _ (hz.2.2.row (b := b8) (cs := Zu) (t := 37) (by simp)) und rfl hsu.out
          try simp only [Act.put, List.setIfInBounds_toArray, List.set_cons_zero, List.set_cons_succ]
          refine takeH 6 (fun _ _ _ _ _ h => h) (by kernel_rfl) hHeld rfl (by kernel_rfl) (by rfl) (v := .agg (Zv)) ?_ ?_
          · intro wz hz
            exact exec_load 37 _ rfl b12 rfl 37 (Zv) (0, 0) _ (hz.2.2.row (b := b12) (cs := Zv) (t := 37) (by simp)) und rfl hsv.out
          try simp only [Act.put, List.setIfInBounds_toArray, List.set_cons_zero, List.set_cons_succ]
          refine stepH 7 (by kernel_rfl) rfl (by rfl) (fun K hK => ?_)
          go_simp
          refine (cS.out _ (hHeld.2.2.row (b := g0) (cs := z0) (t := 5) (by simp)) (hHeld.2.2.row (b := g1) (cs := z1) (t := 5) (by simp)) (hHeld.2.2.row (b := h0) (cs := y0) (t := 5) (by simp)) (hHeld.2.2.row (b := h1) (cs := y1) (t := 5) (by simp))).mono ?_
          rintro e wc1 ⟨rfl, hbc1⟩
          refine hK.out _ _ ?_ (fun hHeld => ?_)
          · exact ⟨HR.cell (hHeld.2.2.next hbc1) (b := b1) (cs := txC t) (t := 37) (by simp) 14 rfl, (hBo.out.at (hHeld.2.2.next hbc1).2).b0.convN hBo.out.n0, hHeld.2.2.next hbc1⟩
          clear hK K
          try simp only [Act.put, List.setIfInBounds_toArray, List.set_cons_zero, List.set_cons_succ]
          refine tk 8 hHeld ?_; refine tk 9 hHeld ?_; refine tk 10 hHeld ?_; refine tk 11 hHeld ?_; refine tk 12 hHeld ?_; refine tk 13 hHeld ?_; refine tk 14 hHeld ?_; refine tk 15 hHeld ?_; refine tk 16 hHeld ?_; refine tk 17 hHeld ?_; refine tk 18 hHeld ?_; refine tk 19 hHeld ?_; refine tk 20 hHeld ?_; refine tk 21 hHeld ?_; refine tk 22 hHeld ?_; refine tk 23 hHeld ?_; refine tk 24 hHeld ?_; refine tk 25 hHeld ?_; refine tk 26 hHeld ?_; refine tk 27 hHeld ?_; refine tk 28 hHeld ?_; refine tk 29 hHeld ?_; refine tk 30 hHeld ?_; refine tk 31 hHeld ?_; refine tk 32 hHeld ?_; refine tk 33 hHeld ?_; refine tk 34 hHeld ?_; refine tk 35 hHeld ?_; refine sk 36 hHeld ?_; refine sk 37 hHeld ?_; refine sk 38 hHeld ?_; refine sk 39 hHeld ?_; refine sk 40 hHeld ?_; refine sk 41 hHeld ?_; refine tk 42 hHeld ?_; refine tk 43 hHeld ?_; refine tk 44 hHeld ?_
          refine wpAnyH_done (by kernel_rfl) (NoPanic.normal ?_) _
          have HL := Lib.hid hHeld.2.2
          clear hHeld
          go_wp2_with fail
          go_ret
          exact ⟨by simp, HL.out.2⟩


set_option maxRecDepth 100000 in
set_option maxHeartbeats 8000000 in
theorem walkTSY (w : World) (t : TxD) (ao : Option Addr) (len cap : Nat) (h : TxOk t) (hl : t.l0 < 200 ∧ t.l1 < 200) (hm : mayB t = true) (L0 L1 : List Nat) (x0 : ∀ x ∈ L0, x < 256) (x1 : ∀ x ∈ L1, x < 256) (hB : Bods t L0 L1 w.heap.size w) (L : List Nat) (x : Hid (B8 len L)) (S : Hid (SlI w.heap.size w ao cap L)) (hl2 : len ≤ 2000) : Calls Try.prog 6 #[txV t, .slice ao len cap] w fun e w' => e = .returned (.bool true) ∧ Below w.heap.size w w' := by
  have hq : (decide (t.l0 < 200) && decide (t.l1 < 200)) = true := by rw [decide_eq_true hl.1, decide_eq_true hl.2]; rfl
  have cL := Lib.hid (lLight t)
  rw [hq] at cL
  have cW := Lib.hid (fun W hb => tWrite t L0 L1 h hm W (hB.at hb))
  have cRW := Lib.hid (fun W hb => r19Write t L0 L1 h (MayI.of hm) W (hB.at hb))
  have wl := Lib.hid (wri_lt t x0 x1)
  have ok4 : Hid (L0.length = 32 ∧ L1.length = 32) := Lib.hid ⟨hB.n0.trans (MayI.of hm).l0, hB.n1.trans (MayI.of hm).l1⟩
  clear h hm x0 x1
  have hBo := Lib.hid hB
  have hl1 : ¬ (2000 : Int) < (len : Int) := by omega
  clear hl hq hB
  go_enter Try.func6, Try.ntmps6
  have und := Try.underlying37
  go_upto_region 1 with fail
  have H1 := Lib.hid ((HR.refl w).new (txC t) 37)
  generalize w.alloc (.cells (txC t) 37) = w1 at H1 ⊢
  generalize hb1 : w.heap.size = b1 at H1 ⊢
  have hbs := Lib.hid hb1
  clear hb1
  go_wp2_with fail
  refine (up19 _).mono ?_
  rintro e w2 ⟨rfl, hb⟩
  have H2 := Lib.hid (H1.out.next hb)
  clear hb H1
  have RT := Lib.hid (H2.out.row (b := b1) (cs := txC t) (t := 37) (by simp))
  go_wp2_with (refine wpList_load_row rfl _ _ rfl b1 rfl 37 (txC t) (0, 0) _ RT.out und rfl sizTX ?_)
  refine (cL.out _).mono ?_
  rintro e w3 ⟨rfl, hb⟩
  have H3 := Lib.hid (H2.out.next hb)
  clear RT hb H2
  have hS1 := S.out.next9 H3.out.2
  obtain ⟨g, cap2, w5, hap, hO5, hbw5⟩ := append_copy w3 ao len cap L x.out.len (by omega) (fun h => by have := hS1.no h; rw [x.out.len] at this; exact this) (fun h => by
    obtain ⟨b, o, e1, _, e3⟩ := hS1.bl (by rw [x.out.len]; exact h)
    exact ⟨b, o, e1, e3⟩)
  clear hS1
  have hg1 : Hid (g ≠ b1 ∧ w.heap.size ≤ g ∧ g < w5.heap.size) := Lib.hid (by
    have h1 := own_ge hO5
    have h2 := H3.out.lt (b := b1) (cs := txC t) (t := 37) (by simp)
    have h3 := own_lt hO5
    have h4 := H3.out.2.size
    omega)
  have H5 := Lib.hid (H3.out.next hbw5)
  have O5 := Lib.hid hO5
  clear H3 hO5 hbw5
  go_upto_region 6 with (at_builtin; refine wpList_appended rfl _ _ _ _ rfl _ _ _ rfl rfl hap ?_)
  clear hap
  go_wp2_with fail
  refine (tReadO (some ⟨g, 0, none⟩) len cap2 L x.out.len x.out.lt _ (OwnB.sl9 O5.out).2).mono ?_
  rintro e w6 ⟨Zu, Eu, u, M0, M1, z, g0, g1, z0, z1, rfl, hC, hk, hB, hE, r0, r1, hb⟩
  have HA := Lib.hid (HR.add (HR.add (H5.out.next hb) r0) r1)
  obtain ⟨hZs0, hZ1, hZi⟩ := hE.size
  have hth : (w6.alloc (.cells zC 37)).there w6.heap.size 0 Zu.size := by rw [hZs0]; exact Row.newThere w6 zC 37
  have hZs := Lib.hid hZs0
  have fE1 := Lib.hid hE
  have fC1 := Lib.hid hC
  have fk1 := Lib.hid hk
  have fB1 := Lib.hid hB
  have BB := Lib.hid hb
  clear hZs0 hb r0 r1 hE hC hk hB
  go_upto_region 7 with (refine wpList_store_mid rfl _ _ _ rfl w6.heap.size 0 Zu rfl rfl hth hZi hZ1 ?_)
  have H7 := Lib.hid (HA.out.fill zC Zu 37 hZs.out)
  have BX1 := Lib.hid (((HR.refl _).next BB.out).fill zC Zu 37 hZs.out).2
  have hl6 := Lib.hid BB.out.size
  clear hth hZ1 hZi hZs HA BB
  generalize (w6.alloc (.cells zC 37)).setCells w6.heap.size 0 Zu.toList = w7 at H7 BX1 ⊢
  generalize w6.heap.size = b8 at H7 hl6 ⊢
  have O7 := Lib.hid (O5.out.below BX1.out)
  have k1 := own_conv9 O7.out
  have k2 := (S.out.next9 H7.out.2).convN x.out.len
  have ne7 : Hid (g ≠ b8 ∧ g ≠ g0 ∧ g ≠ g1) := Lib.hid (by have h1 := hg1.out; have h2 := hl6.out; have h3 := fB1.out.b0; have h4 := fB1.out.b1; omega)
  have HO7 : Hid (LoI w3.heap.size w7 g cap2 len 0) := Lib.hid ⟨by omega, by omega, L, x.out.len, x.out.lt, O7.out⟩
  clear O5 O7 BX1 hl6
  go_upto_region 9 with fail
  clear k1 k2
  go_loopw [11] (fun q wr => ∃ i : Int, q = .int .i64 i ∧ Hid (LoI w3.heap.size wr g cap2 (len) i) ∧ Hid (HR w wr [(b8, Zu, 37), (g1, z1, 5), (g0, z0, 5), (b1, txC t, 37)])) (fun q _ => (len) - (intOf q).toNat)
  case atStart => exact ⟨0, rfl, HO7, H7⟩
  case round =>
    clear HO7 H7
    obtain ⟨i, rfl, HL, HQ⟩ := hrel
    have i0 := HL.out.1
    have i1 := HL.out.2.1
    by_cases hi : i < ((len : Nat) : Int)
    · obtain ⟨x1, cv, fv, v0, v1, HN⟩ := HL.out.step hi
      replace HN := Lib.hid HN
      have HQ2 := Lib.hid (HQ.out.other (D := g) (o := i.toNat) (v := .int .u8 ((x1 + 1) % 256)) (by have := ne7.out; have := hg1.out; simp; omega) (by have := hg1.out; omega))
      clear HL HQ
      go_wp2_with fail
      go_roundw
      case rel => (first | exact ⟨_, rfl, HN, HQ2⟩ | (repeat apply Exists.intro; exact ⟨⟨_, rfl, HN, HQ2⟩, rfl⟩))
      case measure => (first | (simp [intOf]; omega) | (show (len) - (intOf (.int .i64 (i + 1))).toNat < (len) - (intOf (.int .i64 i)).toNat; simp [intOf]; omega))
    · obtain rfl : i = ((len : Nat) : Int) := by omega
      clear HL i0 i1 hi
      go_wp2_with fail
      refine (tReadO ao len cap L x.out.len x.out.lt _ (S.out.next9 HQ.out.2)).mono ?_
      rintro e w12 ⟨Zv, Ev, v, K0, K1, y, h0, h1, y0, y1, rfl, hC, hk, hB, hE, r0, r1, hb⟩
      have HA := Lib.hid (HR.add (HR.add (HQ.out.next hb) r0) r1)
      obtain ⟨hZs0, hZ1, hZi⟩ := hE.size
      have hth : (w12.alloc (.cells zC 37)).there w12.heap.size 0 Zv.size := by rw [hZs0]; exact Row.newThere w12 zC 37
      have hZs := Lib.hid hZs0
      have fE2 := Lib.hid hE
      have fC2 := Lib.hid hC
      have fk2 := Lib.hid hk
      have fB2 := Lib.hid hB
      have BB := Lib.hid hb
      clear hZs0 hb r0 r1 hE hC hk hB
      go_upto_region 13 with (refine wpList_store_mid rfl _ _ _ rfl w12.heap.size 0 Zv rfl rfl hth hZi hZ1 ?_)
      have H13 := Lib.hid (HA.out.fill zC Zv 37 hZs.out)
      have BX2 := Lib.hid (((HR.refl _).next BB.out).fill zC Zv 37 hZs.out).2
      clear hth hZ1 hZi hZs HA BB
      generalize (w12.alloc (.cells zC 37)).setCells w12.heap.size 0 Zv.toList = w13 at H13 BX2 ⊢
      generalize w12.heap.size = b12 at H13 ⊢
      have hsu := Lib.hid (fE1.out.size).2.2
      have hsv := Lib.hid (fE2.out.size).2.2
      obtain ⟨cS0, hEE⟩ := sameOf fC1.out fC2.out fB1.out fB2.out fE1.out fE2.out
      have cS := Lib.hid cS0
      clear cS0 HQ BX2 fE1 fE2 fC1 fC2 fk1 fk2
      have k14 := H13.out.cell (b := b1) (cs := txC t) (t := 37) (by simp) 14 rfl
      have z14 := (hBo.out.at H13.out.2).b0.convN (hBo.out.n0)
      go_upto_region 14 with fail
      clear k14 z14
      have RT := Lib.hid (H13.out.row (b := b1) (cs := txC t) (t := 37) (by simp))
      go_wp2_with (refine wpList_load_row rfl _ _ rfl b1 rfl 37 (txC t) (0, 0) _ RT.out und rfl sizTX ?_)
      refine (cW.out _ H13.out.2).mono ?_
      rintro e w14 ⟨v5, rfl, hO, hb⟩
      have H14 := Lib.hid (H13.out.next hb)
      obtain ⟨n5, hn5⟩ : ∃ z, (wriL t L0 L1).length = z := ⟨_, rfl⟩
      obtain ⟨g5, c5, rfl⟩ := own_shape hO (fun h => by subst h; have h1 := (OwnB.sl9 hO).1; have := wri_pos t L0 L1; omega)
      rw [hn5] at hO ⊢
      have hn5l := wri_le t (ok4.out.1) (ok4.out.2)
      rw [hn5] at hn5l
      have ne14 : Hid (w.heap.size ≤ g5 ∧ (∀ r ∈ ([(b12, Zv, 37), (h1, y1, 5), (h0, y0, 5), (b8, Zu, 37), (g1, z1, 5), (g0, z0, 5), (b1, txC t, 37)] : List (Nat × Array Value × TypeId)), r.1 ≠ g5)) := Lib.hid ⟨by have := own_ge hO; have := H13.out.2.size; omega, fun r hr => by have h1 := H13.out.lt (b := r.1) (cs := r.2.1) (t := r.2.2) hr; have h2 := own_ge hO; omega⟩
      have HO14 : Hid (LoI w13.heap.size w14 g5 c5 n5 0) := Lib.hid ⟨by omega, by omega, wriL t L0 L1, hn5, gd_lt wl.out, hO⟩
      clear hO
      clear RT hb H13
      have hn5h := Lib.hid hn5
      clear hn5
      go_upto_region 16 with fail
      go_loopw [17] (fun q wr => ∃ i : Int, q = .int .i64 i ∧ Hid (LoI w13.heap.size wr g5 c5 (n5) i) ∧ Hid (HR w wr [(b12, Zv, 37), (h1, y1, 5), (h0, y0, 5), (b8, Zu, 37), (g1, z1, 5), (g0, z0, 5), (b1, txC t, 37)])) (fun q _ => (n5) - (intOf q).toNat)
      case atStart => exact ⟨0, rfl, HO14, H14⟩
      case round =>
        clear HO14 H14
        obtain ⟨i, rfl, HL, HP⟩ := hrel
        have i0 := HL.out.1
        have i1 := HL.out.2.1
        by_cases hi : i < ((n5 : Nat) : Int)
        · obtain ⟨x1, cv, fv, v0, v1, HN⟩ := HL.out.step hi
          replace HN := Lib.hid HN
          have HP2 := Lib.hid (HP.out.other (D := g5) (o := i.toNat) (v := .int .u8 ((x1 + 1) % 256)) (by exact ne14.out.2) (by have := ne14.out.1; omega))
          clear HL HP
          go_wp2_with fail
          go_roundw
          case rel => (first | exact ⟨_, rfl, HN, HP2⟩ | (repeat apply Exists.intro; exact ⟨⟨_, rfl, HN, HP2⟩, rfl⟩))
          case measure => (first | (simp [intOf]; omega) | (show (n5) - (intOf (.int .i64 (i + 1))).toNat < (n5) - (intOf (.int .i64 i)).toNat; simp [intOf]; omega))
        · obtain rfl : i = ((n5 : Nat) : Int) := by omega
          clear HL i0 i1 hi
          have RT := Lib.hid (HP.out.row (b := b1) (cs := txC t) (t := 37) (by simp))
          go_wp2_with (refine wpList_load_row rfl _ _ rfl b1 rfl 37 (txC t) (0, 0) _ RT.out und rfl sizTX ?_)
          refine (cW.out _ HP.out.2).mono ?_
          rintro e w19 ⟨v7, rfl, hO, hb⟩
          have H19 := Lib.hid (HP.out.next hb)
          obtain ⟨a7, c7, rfl⟩ := own_any9 hO
          have O7 := Lib.hid (hO.base (base' := w.heap.size) (by have := HP.out.2.size; omega))
          obtain ⟨n7, hn7⟩ : ∃ z, (wriL t L0 L1).length = z := ⟨_, rfl⟩
          rw [hn7] at O7 ⊢
          replace hn7 := Lib.hid hn7
          clear hO
          clear RT hb HP
          go_upto_region 20 with fail
          rcases hEE with ⟨rfl, rfl⟩ | ⟨k, rfl, rfl⟩
          · have hN := fun W => nilN19 W
            have hNe := fun W => neN19 W
            have hE := fun W => eqN19 W 1
            have hEe := fun W => neE19 W 1
            refine wp_region_noPanic ?_
            refine wp_region_held_drew (S := fun wq => wq.cell? ⟨b1, 14, none⟩ = some (.slice t.s0 t.l0 t.c0) ∧ (convert 26 9 (.slice t.s0 t.l0 t.c0)).run Try.prog wq = .ok (.string (strB L0)) wq ∧ (convert 26 9 (.slice a7 n7 c7)).run Try.prog wq = .ok (.string (strB (wriL t L0 L1))) wq ∧ OwnB wq w.heap.size (.slice a7 n7 c7) (wriL t L0 L1) ∧ HR w wq [(b12, Zv, 37), (h1, y1, 5), (h0, y0, 5), (b8, Zu, 37), (g1, z1, 5), (g0, z0, 5), (b1, txC t, 37)]) (by kernel_rfl) ?_ (fun hHeld => ?_)
            · exact ⟨HR.cell (HR.drew H19.out) (b := b1) (cs := txC t) (t := 37) (by simp) 14 rfl, (hBo.out.at (HR.drew H19.out).2).b0.convN hBo.out.n0, own_conv9 (own_drew8 O7.out), own_drew8 O7.out, HR.drew H19.out⟩
            refine tk 0 hHeld ?_; refine tk 1 hHeld ?_; refine tk 2 hHeld ?_; refine tk 3 hHeld ?_; refine tk 4 hHeld ?_
            refine takeH 5 (fun _ _ _ _ _ h => h) (by kernel_rfl) hHeld rfl (by kernel_rfl) (by rfl) (v := .agg (Zu)) ?_ ?_
            · intro wz hz
              exact exec_load 37 _ rfl b8 rfl 37 (Zu) (0, 0) _ (hz.2.2.2.2.row (b := b8) (cs := Zu) (t := 37) (by simp)) und rfl hsu.out
            try simp only [Act.put, List.setIfInBounds_toArray, List.set_cons_zero, List.set_cons_succ]
            refine takeH 6 (fun _ _ _ _ _ h => h) (by kernel_rfl) hHeld rfl (by kernel_rfl) (by rfl) (v := .agg (Zv)) ?_ ?_
            · intro wz hz
              exact exec_load 37 _ rfl b12 rfl 37 (Zv) (0, 0) _ (hz.2.2.2.2.row (b := b12) (cs := Zv) (t := 37) (by simp)) und rfl hsv.out
            try simp only [Act.put, List.setIfInBounds_toArray, List.set_cons_zero, List.set_cons_succ]
            refine stepH 7 (by kernel_rfl) rfl (by rfl) (fun K hK => ?_)
            go_simp
            refine (cS.out _ (hHeld.2.2.2.2.row (b := g0) (cs := z0) (t := 5) (by simp)) (hHeld.2.2.2.2.row (b := g1) (cs := z1) (t := 5) (by simp)) (hHeld.2.2.2.2.row (b := h0) (cs := y0) (t := 5) (by simp)) (hHeld.2.2.2.2.row (b := h1) (cs := y1) (t := 5) (by simp))).mono ?_
            rintro e wc1 ⟨rfl, hbc1⟩
            refine hK.out _ _ ?_ (fun hHeld => ?_)
            · exact ⟨HR.cell (hHeld.2.2.2.2.next hbc1) (b := b1) (cs := txC t) (t := 37) (by simp) 14 rfl, (hBo.out.at (hHeld.2.2.2.2.next hbc1).2).b0.convN hBo.out.n0, own_conv9 (hHeld.2.2.2.1.below hbc1), hHeld.2.2.2.1.below hbc1, hHeld.2.2.2.2.next hbc1⟩
            clear hK K
            try simp only [Act.put, List.setIfInBounds_toArray, List.set_cons_zero, List.set_cons_succ]
            refine tk 8 hHeld ?_; refine tk 9 hHeld ?_; refine tk 10 hHeld ?_; refine tk 11 hHeld ?_; refine tk 12 hHeld ?_; refine tk 13 hHeld ?_; refine tk 14 hHeld ?_; refine tk 15 hHeld ?_; refine tk 16 hHeld ?_; refine tk 17 hHeld ?_; refine tk 18 hHeld ?_; refine tk 19 hHeld ?_; refine tk 20 hHeld ?_; refine tk 21 hHeld ?_; refine tk 22 hHeld ?_; refine tk 23 hHeld ?_; refine tk 24 hHeld ?_; refine tk 25 hHeld ?_; refine tk 26 hHeld ?_; refine tk 27 hHeld ?_; refine tk 28 hHeld ?_; refine tk 29 hHeld ?_; refine tk 30 hHeld ?_; refine tk 31 hHeld ?_; refine tk 32 hHeld ?_; refine tk 33 hHeld ?_; refine tk 34 hHeld ?_; refine tk 35 hHeld ?_; refine tk 36 hHeld ?_; refine tk 37 hHeld ?_
            refine takeH 38 (fun _ _ _ _ _ h => h) (by kernel_rfl) hHeld rfl (by kernel_rfl) (by rfl) (v := .agg (txC t)) ?_ ?_
            · intro wz hz
              exact exec_load 37 _ rfl b1 rfl 37 (txC t) (0, 0) _ (hz.2.2.2.2.row (b := b1) (cs := txC t) (t := 37) (by simp)) und rfl sizTX
            try simp only [Act.put, List.setIfInBounds_toArray, List.set_cons_zero, List.set_cons_succ]
            refine stepH 39 (by kernel_rfl) rfl (by rfl) (fun K hK => ?_)
            go_simp
            refine (cRW.out _ (hHeld.2.2.2.2.2)).mono ?_
            rintro e wc2 ⟨gw, cw, rfl, hOw, hbc2⟩
            have zw := own_conv9 hOw
            refine hK.out _ _ ?_ (fun hHeld => ?_)
            · exact ⟨HR.cell (hHeld.2.2.2.2.next hbc2) (b := b1) (cs := txC t) (t := 37) (by simp) 14 rfl, (hBo.out.at (hHeld.2.2.2.2.next hbc2).2).b0.convN hBo.out.n0, own_conv9 (hHeld.2.2.2.1.below hbc2), hHeld.2.2.2.1.below hbc2, hHeld.2.2.2.2.next hbc2⟩
            clear hK K
            try simp only [Act.put, List.setIfInBounds_toArray, List.set_cons_zero, List.set_cons_succ]
            refine stepH 40 (by kernel_rfl) rfl (by rfl) (fun K hK => ?_)
            go_simp
            refine hK.out _ _ ?_ (fun hHeld => ?_)
            · exact hHeld
            clear hK K
            try simp only [Act.put, List.setIfInBounds_toArray, List.set_cons_zero, List.set_cons_succ]
            refine tk 41 hHeld ?_; refine tk 42 hHeld ?_; refine tk 43 hHeld ?_; refine tk 44 hHeld ?_
            refine wpAnyH_done (by kernel_rfl) (NoPanic.normal ?_) _
            have HL := Lib.hid hHeld.2.2.2.2
            clear hHeld
            go_wp2_with fail
            go_ret
            exact ⟨by simp, HL.out.2⟩
          · have hN := fun W => nilN19 W
            have hNe := fun W => neN19 W
            have hE := fun W => eqN19 W 1
            have hEk := fun W => eqN19 W k
            have hEe := fun W => neE19 W 1
            refine wp_region_noPanic ?_
            refine wp_region_held_drew (S := fun wq => wq.cell? ⟨b1, 14, none⟩ = some (.slice t.s0 t.l0 t.c0) ∧ (convert 26 9 (.slice t.s0 t.l0 t.c0)).run Try.prog wq = .ok (.string (strB L0)) wq ∧ (convert 26 9 (.slice a7 n7 c7)).run Try.prog wq = .ok (.string (strB (wriL t L0 L1))) wq ∧ OwnB wq w.heap.size (.slice a7 n7 c7) (wriL t L0 L1) ∧ HR w wq [(b12, Zv, 37), (h1, y1, 5), (h0, y0, 5), (b8, Zu, 37), (g1, z1, 5), (g0, z0, 5), (b1, txC t, 37)]) (by kernel_rfl) ?_ (fun hHeld => ?_)
            · exact ⟨HR.cell (HR.drew H19.out) (b := b1) (cs := txC t) (t := 37) (by simp) 14 rfl, (hBo.out.at (HR.drew H19.out).2).b0.convN hBo.out.n0, own_conv9 (own_drew8 O7.out), own_drew8 O7.out, HR.drew H19.out⟩
            refine tk 0 hHeld ?_; refine tk 1 hHeld ?_; refine tk 2 hHeld ?_; refine tk 3 hHeld ?_; refine tk 4 hHeld ?_
            refine takeH 5 (fun _ _ _ _ _ h => h) (by kernel_rfl) hHeld rfl (by kernel_rfl) (by rfl) (v := .agg (Zu)) ?_ ?_
            · intro wz hz
              exact exec_load 37 _ rfl b8 rfl 37 (Zu) (0, 0) _ (hz.2.2.2.2.row (b := b8) (cs := Zu) (t := 37) (by simp)) und rfl hsu.out
            try simp only [Act.put, List.setIfInBounds_toArray, List.set_cons_zero, List.set_cons_succ]
            refine takeH 6 (fun _ _ _ _ _ h => h) (by kernel_rfl) hHeld rfl (by kernel_rfl) (by rfl) (v := .agg (Zv)) ?_ ?_
            · intro wz hz
              exact exec_load 37 _ rfl b12 rfl 37 (Zv) (0, 0) _ (hz.2.2.2.2.row (b := b12) (cs := Zv) (t := 37) (by simp)) und rfl hsv.out
            try simp only [Act.put, List.setIfInBounds_toArray, List.set_cons_zero, List.set_cons_succ]
            refine stepH 7 (by kernel_rfl) rfl (by rfl) (fun K hK => ?_)
            go_simp
            refine (cS.out _ (hHeld.2.2.2.2.row (b := g0) (cs := z0) (t := 5) (by simp)) (hHeld.2.2.2.2.row (b := g1) (cs := z1) (t := 5) (by simp)) (hHeld.2.2.2.2.row (b := h0) (cs := y0) (t := 5) (by simp)) (hHeld.2.2.2.2.row (b := h1) (cs := y1) (t := 5) (by simp))).mono ?_
            rintro e wc1 ⟨rfl, hbc1⟩
            refine hK.out _ _ ?_ (fun hHeld => ?_)
            · exact ⟨HR.cell (hHeld.2.2.2.2.next hbc1) (b := b1) (cs := txC t) (t := 37) (by simp) 14 rfl, (hBo.out.at (hHeld.2.2.2.2.next hbc1).2).b0.convN hBo.out.n0, own_conv9 (hHeld.2.2.2.1.below hbc1), hHeld.2.2.2.1.below hbc1, hHeld.2.2.2.2.next hbc1⟩
            clear hK K
            try simp only [Act.put, List.setIfInBounds_toArray, List.set_cons_zero, List.set_cons_succ]
            refine tk 8 hHeld ?_; refine tk 9 hHeld ?_; refine tk 10 hHeld ?_; refine tk 11 hHeld ?_; refine tk 12 hHeld ?_; refine tk 13 hHeld ?_; refine tk 14 hHeld ?_; refine tk 15 hHeld ?_; refine tk 16 hHeld ?_; refine tk 17 hHeld ?_; refine tk 18 hHeld ?_; refine tk 19 hHeld ?_; refine tk 20 hHeld ?_; refine tk 21 hHeld ?_; refine tk 22 hHeld ?_; refine tk 23 hHeld ?_; refine tk 24 hHeld ?_; refine tk 25 hHeld ?_; refine tk 26 hHeld ?_; refine tk 27 hHeld ?_; refine tk 28 hHeld ?_; refine tk 29 hHeld ?_; refine tk 30 hHeld ?_; refine tk 31 hHeld ?_; refine tk 32 hHeld ?_; refine tk 33 hHeld ?_; refine tk 34 hHeld ?_; refine tk 35 hHeld ?_; refine tk 36 hHeld ?_; refine tk 37 hHeld ?_
            refine takeH 38 (fun _ _ _ _ _ h => h) (by kernel_rfl) hHeld rfl (by kernel_rfl) (by rfl) (v := .agg (txC t)) ?_ ?_
            · intro wz hz
              exact exec_load 37 _ rfl b1 rfl 37 (txC t) (0, 0) _ (hz.2.2.2.2.row (b := b1) (cs := txC t) (t := 37) (by simp)) und rfl sizTX
            try simp only [Act.put, List.setIfInBounds_toArray, List.set_cons_zero, List.set_cons_succ]
            refine stepH 39 (by kernel_rfl) rfl (by rfl) (fun K hK => ?_)
            go_simp
            refine (cRW.out _ (hHeld.2.2.2.2.2)).mono ?_
            rintro e wc2 ⟨gw, cw, rfl, hOw, hbc2⟩
            have zw := own_conv9 hOw
            refine hK.out _ _ ?_ (fun hHeld => ?_)
            · exact ⟨HR.cell (hHeld.2.2.2.2.next hbc2) (b := b1) (cs := txC t) (t := 37) (by simp) 14 rfl, (hBo.out.at (hHeld.2.2.2.2.next hbc2).2).b0.convN hBo.out.n0, own_conv9 (hHeld.2.2.2.1.below hbc2), hHeld.2.2.2.1.below hbc2, hHeld.2.2.2.2.next hbc2⟩
            clear hK K
            try simp only [Act.put, List.setIfInBounds_toArray, List.set_cons_zero, List.set_cons_succ]
            refine stepH 40 (by kernel_rfl) rfl (by rfl) (fun K hK => ?_)
            go_simp
            refine hK.out _ _ ?_ (fun hHeld => ?_)
            · exact hHeld
            clear hK K
            try simp only [Act.put, List.setIfInBounds_toArray, List.set_cons_zero, List.set_cons_succ]
            refine tk 41 hHeld ?_; refine tk 42 hHeld ?_; refine tk 43 hHeld ?_; refine tk 44 hHeld ?_
            refine wpAnyH_done (by kernel_rfl) (NoPanic.normal ?_) _
            have HL := Lib.hid hHeld.2.2.2.2
            clear hHeld
            go_wp2_with fail
            go_ret
            exact ⟨by simp, HL.out.2⟩


theorem walkTxStays (w : World) (t : TxD) (h : TxOk t) (L0 : List Nat) (x0 : B8 t.l0 L0) (L1 : List Nat) (x1 : B8 t.l1 L1) (hB : Bods t L0 L1 w.heap.size w) (ao : Option Addr) (len cap : Nat) (L : List Nat) (x : B8 len L) (hl : len ≤ cap) (hc : cap ≤ 9223372036854775807) (hn : ao = none → len = 0 ∧ cap = 0) (hb : 0 < len → ∃ b o, ao = some ⟨b, o, none⟩ ∧ BL w b o L) : Calls Try.prog 6 #[txV t, .slice ao len cap] w fun e w' => e = .returned (.bool true) ∧ Below w.heap.size w w' := by
  by_cases h1 : t.l0 < 200 ∧ t.l1 < 200
  · by_cases h2 : 2000 < len
    · exact walkTSM w t ao len cap h1 h2
    · cases hm : mayB t
      · exact walkTSN w t ao len cap h h1 hm L0 L1 hB L (Lib.hid x) (Lib.hid (slOf x hl hc hn hb)) (by omega)
      · exact walkTSY w t ao len cap h h1 hm L0 L1 x0.mem x1.mem hB L (Lib.hid x) (Lib.hid (slOf x hl hc hn hb)) (by omega)
  · exact walkTSL w t ao len cap h1

end Go.Proofs.Ytkfimfjjmdjbdaa
