import Derived.Lib.IfaceNeq
import Derived.Test.YtiffendfojhapaaDoorZWup9
import Derived.Test.YtiffendfojhapaaDoorZLsums
import Derived.Test.YtiffendfojhapaaDoorMB
set_option linter.unusedVariables false
set_option linter.unusedSimpArgs false
/- The walk of the law SchnorrTurns. -/
namespace Go.Proofs.YtiffendfojhapaaDoor
open Go.RowKit

theorem neErrC (W : World) (a b : Int) : (binOp .neq 25 (.iface 28 (.int .i64 a)) (.iface 28 (.int .i64 b))).run Tryd.prog W = .ok (.bool (!(a == b))) W :=
  Lib.run_neq_iface_int W a b Tryd.underlying25 (by kernel_rfl) Tryd.underlying28
theorem in_pt {x y : Int} (x0 : 0 ≤ x) (y0 : 0 ≤ y) (h : inN (x.toNat, y.toNat) = true) : ∃ P : Obol.Pt, ptV P = edV x y ∧ Obol.Pnt.smul 72057593894066549 P = Obol.Pnt.zero := by
  unfold inN at h
  rw [Bool.and_eq_true, decide_eq_true_eq] at h
  obtain ⟨P, hP⟩ := Obol.isN_pt h.1
  refine ⟨P, ?_, ?_⟩
  · have h1 : P.x.val = x.toNat := congrArg Prod.fst hP
    have h2 : P.y.val = y.toNat := congrArg Prod.snd hP
    show edV _ _ = _
    rw [h1, h2, Int.toNat_of_nonneg x0, Int.toNat_of_nonneg y0]
  · have h3 := h.2
    rw [← hP, Obol.smulN_eq, Obol.of_n] at h3
    exact Obol.Pnt.n_inj (h3.trans Obol.zero_n.symm)

set_option maxRecDepth 8000 in
set_option maxHeartbeats 4000000 in
theorem walkTurns (w : World) (hG : RowsAt w) (k x y t : Int) (k0 : 0 ≤ k) (k1 : k ≤ 18446744073709551615) (x0 : 0 ≤ x) (y0 : 0 ≤ y) (t0 : 0 ≤ t) (t1 : t ≤ 18446744073709551615) :
    Calls Tryd.prog 9 #[.int .u64 k, edV x y, .int .u64 t] w fun e w' => e = .returned (.bool true) ∧ Below w.heap.size w w' := by
  have hU := Lib.hid (fun W hw => up9 W (hG.below hw))
  have hE := fun W => eqErrC W 1 1
  have hE7 := fun W => eqErrC W 7 7
  have hEn := fun W => neErrC W 1 1
  by_cases ht : t < 72057593894066549
  · cases hin : inN (x.toNat, y.toNat)
    · have hI := fun w => r7In x y x0 y0 w
      rw [hin] at hI
      have hi := Lib.hid hin
      replace hI := Lib.hid hI
      clear hin
      by_cases hk : 1 ≤ k ∧ k < 72057593894066549
      · by_cases hz : Obol.addM 72057593894066549 k.toNat t.toNat = 0
        · have cD := fun w => r1Add 72057593894066549 k t (by omega) (by omega) k0 t0 w
          rw [litSn, hz] at cD
          have hK := Lib.hid hk
          have hZ := Lib.hid hz
          replace cD := Lib.hid cD
          clear hk hz
          go_enter Tryd.func9, Tryd.ntmps9
          go_wp2_with fail
          have H0 := Lib.hid ((HR.refl w).new #[.int .u64 x, .int .u64 y] 37)
          generalize w.alloc (.cells #[.int .u64 x, .int .u64 y] 37) = w0 at H0 ⊢
          generalize w.heap.size = b4 at H0 ⊢
          refine (hU.out _ H0.out.2).mono ?_
          rintro e w1 ⟨rfl, hb1⟩
          have H1 := Lib.hid (H0.out.next hb1)
          clear hb1 H0
          have c_b4_0 := H1.out.cell (b := b4) (cs := #[.int .u64 x, .int .u64 y]) (t := 37) (by simp) 0 rfl
          have c_b4_1 := H1.out.cell (b := b4) (cs := #[.int .u64 x, .int .u64 y]) (t := 37) (by simp) 1 rfl
          go_wp2_with fail
          refine (sTurnZ k t hK.out.1 hK.out.2 t0 (by assumption) hZ.out _).mono ?_
          rintro e w2 ⟨rfl, n2, rfl⟩
          have H2 := Lib.hid (H1.out.drewN n2)
          clear H1
          go_wp2_with fail
          clear c_b4_0 c_b4_1
          refine (sTpI x y t x0 y0 hi.out _).mono ?_
          rintro e w3 ⟨rfl, hb3⟩
          have H3 := Lib.hid ((H2.out.next hb3).new #[.int .u64 0, .int .u64 0] 37)
          clear hb3 H2
          go_upto_region 4 with fail
          generalize w3.alloc (.cells #[.int .u64 0, .int .u64 0] 37) = w4 at H3 ⊢
          generalize w3.heap.size = b10 at H3 ⊢
          have c_b10_0 := H3.out.cell (b := b10) (cs := #[.int .u64 0, .int .u64 0]) (t := 37) (by simp) 0 rfl
          have c_b10_1 := H3.out.cell (b := b10) (cs := #[.int .u64 0, .int .u64 0]) (t := 37) (by simp) 1 rfl
          have c_b4_0 := H3.out.cell (b := b4) (cs := #[.int .u64 x, .int .u64 y]) (t := 37) (by simp) 0 rfl
          have c_b4_1 := H3.out.cell (b := b4) (cs := #[.int .u64 x, .int .u64 y]) (t := 37) (by simp) 1 rfl
          go_wp2_with fail
          refine (hI.out _).mono ?_
          rintro e w5 ⟨rfl, hb5⟩
          have H5 := Lib.hid (H3.out.next hb5)
          clear hb5 H3
          clear c_b10_0 c_b10_1 c_b4_0 c_b4_1
          have c_b10_0 := H5.out.cell (b := b10) (cs := #[.int .u64 0, .int .u64 0]) (t := 37) (by simp) 0 rfl
          have c_b10_1 := H5.out.cell (b := b10) (cs := #[.int .u64 0, .int .u64 0]) (t := 37) (by simp) 1 rfl
          have c_b4_0 := H5.out.cell (b := b4) (cs := #[.int .u64 x, .int .u64 y]) (t := 37) (by simp) 0 rfl
          have c_b4_1 := H5.out.cell (b := b4) (cs := #[.int .u64 x, .int .u64 y]) (t := 37) (by simp) 1 rfl
          go_wp2_with fail
          clear c_b10_0 c_b10_1 c_b4_0 c_b4_1
          refine (lKeyY k hK.out.1 hK.out.2 _).mono ?_
          rintro e w8 ⟨rfl, rfl⟩
          go_wp2_with fail
          refine (cD.out _).mono ?_
          rintro e w9 ⟨rfl, rfl⟩
          go_wp2_with fail
          go_ret
          exact ⟨rfl, H5.out.2⟩
        · have cD := fun w => r1Add 72057593894066549 k t (by omega) (by omega) k0 t0 w
          have cU := fun w => sTurnY k t hk.1 hk.2 t0 (by assumption) hz w
          rw [litSn] at cD
          obtain ⟨s, hs⟩ : ∃ s : Int, ((Obol.addM 72057593894066549 k.toNat t.toNat : Nat) : Int) = s := ⟨_, rfl⟩
          rw [hs] at cD cU
          have hs0 : ¬ s = 0 := by omega
          have hs1 : (s == 0) = false := beq_eq_false_iff_ne.2 hs0
          have hK := Lib.hid hk
          replace cD := Lib.hid cD
          replace cU := Lib.hid cU
          clear hk hz hs
          go_enter Tryd.func9, Tryd.ntmps9
          go_wp2_with fail
          have H0 := Lib.hid ((HR.refl w).new #[.int .u64 x, .int .u64 y] 37)
          generalize w.alloc (.cells #[.int .u64 x, .int .u64 y] 37) = w0 at H0 ⊢
          generalize w.heap.size = b4 at H0 ⊢
          refine (hU.out _ H0.out.2).mono ?_
          rintro e w1 ⟨rfl, hb1⟩
          have H1 := Lib.hid (H0.out.next hb1)
          clear hb1 H0
          have c_b4_0 := H1.out.cell (b := b4) (cs := #[.int .u64 x, .int .u64 y]) (t := 37) (by simp) 0 rfl
          have c_b4_1 := H1.out.cell (b := b4) (cs := #[.int .u64 x, .int .u64 y]) (t := 37) (by simp) 1 rfl
          go_wp2_with fail
          refine (cU.out _).mono ?_
          rintro e w2 ⟨rfl, n2, rfl⟩
          have H2 := Lib.hid (H1.out.drewN n2)
          clear H1
          go_wp2_with fail
          clear c_b4_0 c_b4_1
          refine (sTpI x y t x0 y0 hi.out _).mono ?_
          rintro e w3 ⟨rfl, hb3⟩
          have H3 := Lib.hid ((H2.out.next hb3).new #[.int .u64 0, .int .u64 0] 37)
          clear hb3 H2
          go_upto_region 4 with fail
          generalize w3.alloc (.cells #[.int .u64 0, .int .u64 0] 37) = w4 at H3 ⊢
          generalize w3.heap.size = b10 at H3 ⊢
          have c_b10_0 := H3.out.cell (b := b10) (cs := #[.int .u64 0, .int .u64 0]) (t := 37) (by simp) 0 rfl
          have c_b10_1 := H3.out.cell (b := b10) (cs := #[.int .u64 0, .int .u64 0]) (t := 37) (by simp) 1 rfl
          have c_b4_0 := H3.out.cell (b := b4) (cs := #[.int .u64 x, .int .u64 y]) (t := 37) (by simp) 0 rfl
          have c_b4_1 := H3.out.cell (b := b4) (cs := #[.int .u64 x, .int .u64 y]) (t := 37) (by simp) 1 rfl
          go_wp2_with fail
          refine (hI.out _).mono ?_
          rintro e w5 ⟨rfl, hb5⟩
          have H5 := Lib.hid (H3.out.next hb5)
          clear hb5 H3
          clear c_b10_0 c_b10_1 c_b4_0 c_b4_1
          have c_b10_0 := H5.out.cell (b := b10) (cs := #[.int .u64 0, .int .u64 0]) (t := 37) (by simp) 0 rfl
          have c_b10_1 := H5.out.cell (b := b10) (cs := #[.int .u64 0, .int .u64 0]) (t := 37) (by simp) 1 rfl
          have c_b4_0 := H5.out.cell (b := b4) (cs := #[.int .u64 x, .int .u64 y]) (t := 37) (by simp) 0 rfl
          have c_b4_1 := H5.out.cell (b := b4) (cs := #[.int .u64 x, .int .u64 y]) (t := 37) (by simp) 1 rfl
          go_wp2_with fail
          clear c_b10_0 c_b10_1 c_b4_0 c_b4_1
          refine (lKeyY k hK.out.1 hK.out.2 _).mono ?_
          rintro e w8 ⟨rfl, rfl⟩
          go_wp2_with fail
          refine (cD.out _).mono ?_
          rintro e w9 ⟨rfl, rfl⟩
          go_wp2_with fail
          go_ret
          exact ⟨rfl, H5.out.2⟩
      · have hK := Lib.hid hk
        clear hk
        go_enter Tryd.func9, Tryd.ntmps9
        go_wp2_with fail
        have H0 := Lib.hid ((HR.refl w).new #[.int .u64 x, .int .u64 y] 37)
        generalize w.alloc (.cells #[.int .u64 x, .int .u64 y] 37) = w0 at H0 ⊢
        generalize w.heap.size = b4 at H0 ⊢
        refine (hU.out _ H0.out.2).mono ?_
        rintro e w1 ⟨rfl, hb1⟩
        have H1 := Lib.hid (H0.out.next hb1)
        clear hb1 H0
        have c_b4_0 := H1.out.cell (b := b4) (cs := #[.int .u64 x, .int .u64 y]) (t := 37) (by simp) 0 rfl
        have c_b4_1 := H1.out.cell (b := b4) (cs := #[.int .u64 x, .int .u64 y]) (t := 37) (by simp) 1 rfl
        go_wp2_with fail
        refine (sTurnK k t k0 hK.out _).mono ?_
        rintro e w2 ⟨rfl, rfl⟩
        have H2 := H1
        clear H1
        go_wp2_with fail
        clear c_b4_0 c_b4_1
        refine (sTpI x y t x0 y0 hi.out _).mono ?_
        rintro e w3 ⟨rfl, hb3⟩
        have H3 := Lib.hid ((H2.out.next hb3).new #[.int .u64 0, .int .u64 0] 37)
        clear hb3 H2
        go_upto_region 4 with fail
        generalize w3.alloc (.cells #[.int .u64 0, .int .u64 0] 37) = w4 at H3 ⊢
        generalize w3.heap.size = b10 at H3 ⊢
        have c_b10_0 := H3.out.cell (b := b10) (cs := #[.int .u64 0, .int .u64 0]) (t := 37) (by simp) 0 rfl
        have c_b10_1 := H3.out.cell (b := b10) (cs := #[.int .u64 0, .int .u64 0]) (t := 37) (by simp) 1 rfl
        have c_b4_0 := H3.out.cell (b := b4) (cs := #[.int .u64 x, .int .u64 y]) (t := 37) (by simp) 0 rfl
        have c_b4_1 := H3.out.cell (b := b4) (cs := #[.int .u64 x, .int .u64 y]) (t := 37) (by simp) 1 rfl
        go_wp2_with fail
        refine (hI.out _).mono ?_
        rintro e w5 ⟨rfl, hb5⟩
        have H5 := Lib.hid (H3.out.next hb5)
        clear hb5 H3
        clear c_b10_0 c_b10_1 c_b4_0 c_b4_1
        have c_b10_0 := H5.out.cell (b := b10) (cs := #[.int .u64 0, .int .u64 0]) (t := 37) (by simp) 0 rfl
        have c_b10_1 := H5.out.cell (b := b10) (cs := #[.int .u64 0, .int .u64 0]) (t := 37) (by simp) 1 rfl
        have c_b4_0 := H5.out.cell (b := b4) (cs := #[.int .u64 x, .int .u64 y]) (t := 37) (by simp) 0 rfl
        have c_b4_1 := H5.out.cell (b := b4) (cs := #[.int .u64 x, .int .u64 y]) (t := 37) (by simp) 1 rfl
        go_wp2_with fail
        clear c_b10_0 c_b10_1 c_b4_0 c_b4_1
        refine (lKeyN k k0 hK.out _).mono ?_
        rintro e w8 ⟨rfl, rfl⟩
        go_wp2_with fail
        go_ret
        exact ⟨rfl, H5.out.2⟩
    · have hI := fun w => r7In x y x0 y0 w
      rw [hin] at hI
      obtain ⟨P, hvP, hSP⟩ := in_pt x0 y0 hin
      have cT := fun w => rTimesG t t0 t1 w
      have cO := fun w => sTpY x y t x0 y0 P hvP hSP t0 ht w
      obtain ⟨tx, ty, tx0, ty0, -, -, hvT, -⟩ := coordsN (Obol.Pnt.smul t.toNat Obol.G)
      have cA := fun w => rSum x y tx ty x0 y0 tx0 ty0 P _ hvP hvT w
      obtain ⟨qx, qy, -, -, -, -, hvQ, -⟩ := coordsN (P.add (Obol.Pnt.smul t.toNat Obol.G))
      rw [hvT] at cT
      rw [hvQ] at cA cO
      replace hI := Lib.hid hI
      replace cT := Lib.hid cT
      replace cA := Lib.hid cA
      replace cO := Lib.hid cO
      clear hin hvP hSP hvT hvQ
      by_cases hk : 1 ≤ k ∧ k < 72057593894066549
      · by_cases hz : Obol.addM 72057593894066549 k.toNat t.toNat = 0
        · have cD := fun w => r1Add 72057593894066549 k t (by omega) (by omega) k0 t0 w
          rw [litSn, hz] at cD
          have hK := Lib.hid hk
          have hZ := Lib.hid hz
          replace cD := Lib.hid cD
          clear hk hz
          go_enter Tryd.func9, Tryd.ntmps9
          go_wp2_with fail
          have H0 := Lib.hid ((HR.refl w).new #[.int .u64 x, .int .u64 y] 37)
          generalize w.alloc (.cells #[.int .u64 x, .int .u64 y] 37) = w0 at H0 ⊢
          generalize w.heap.size = b4 at H0 ⊢
          refine (hU.out _ H0.out.2).mono ?_
          rintro e w1 ⟨rfl, hb1⟩
          have H1 := Lib.hid (H0.out.next hb1)
          clear hb1 H0
          have c_b4_0 := H1.out.cell (b := b4) (cs := #[.int .u64 x, .int .u64 y]) (t := 37) (by simp) 0 rfl
          have c_b4_1 := H1.out.cell (b := b4) (cs := #[.int .u64 x, .int .u64 y]) (t := 37) (by simp) 1 rfl
          go_wp2_with fail
          refine (sTurnZ k t hK.out.1 hK.out.2 t0 (by assumption) hZ.out _).mono ?_
          rintro e w2 ⟨rfl, n2, rfl⟩
          have H2 := Lib.hid (H1.out.drewN n2)
          clear H1
          go_wp2_with fail
          clear c_b4_0 c_b4_1
          refine (cO.out _).mono ?_
          rintro e w3 ⟨rfl, hb3⟩
          have H3 := Lib.hid ((H2.out.next hb3).new #[.int .u64 qx, .int .u64 qy] 37)
          clear hb3 H2
          go_upto_region 4 with fail
          generalize w3.alloc (.cells #[.int .u64 qx, .int .u64 qy] 37) = w4 at H3 ⊢
          generalize w3.heap.size = b10 at H3 ⊢
          have c_b10_0 := H3.out.cell (b := b10) (cs := #[.int .u64 qx, .int .u64 qy]) (t := 37) (by simp) 0 rfl
          have c_b10_1 := H3.out.cell (b := b10) (cs := #[.int .u64 qx, .int .u64 qy]) (t := 37) (by simp) 1 rfl
          have c_b4_0 := H3.out.cell (b := b4) (cs := #[.int .u64 x, .int .u64 y]) (t := 37) (by simp) 0 rfl
          have c_b4_1 := H3.out.cell (b := b4) (cs := #[.int .u64 x, .int .u64 y]) (t := 37) (by simp) 1 rfl
          go_wp2_with fail
          refine (hI.out _).mono ?_
          rintro e w5 ⟨rfl, hb5⟩
          have H5 := Lib.hid (H3.out.next hb5)
          clear hb5 H3
          clear c_b10_0 c_b10_1 c_b4_0 c_b4_1
          have c_b10_0 := H5.out.cell (b := b10) (cs := #[.int .u64 qx, .int .u64 qy]) (t := 37) (by simp) 0 rfl
          have c_b10_1 := H5.out.cell (b := b10) (cs := #[.int .u64 qx, .int .u64 qy]) (t := 37) (by simp) 1 rfl
          have c_b4_0 := H5.out.cell (b := b4) (cs := #[.int .u64 x, .int .u64 y]) (t := 37) (by simp) 0 rfl
          have c_b4_1 := H5.out.cell (b := b4) (cs := #[.int .u64 x, .int .u64 y]) (t := 37) (by simp) 1 rfl
          go_wp2_with fail
          refine wp_region_noPanic ?_
          refine wp_region_held_drew (S := fun wq => wq.cell? ⟨b10, 0, none⟩ = some (.int .u64 qx) ∧ wq.cell? ⟨b10, 1, none⟩ = some (.int .u64 qy) ∧ wq.cell? ⟨b4, 0, none⟩ = some (.int .u64 x) ∧ wq.cell? ⟨b4, 1, none⟩ = some (.int .u64 y) ∧ HR w wq [(b10, #[.int .u64 qx, .int .u64 qy], 37), (b4, #[.int .u64 x, .int .u64 y], 37)]) (by kernel_rfl) ?_ (fun hHeld => ?_)
          · have hq0 := HR.drew H5.out
            exact ⟨HR.cell hq0 (b := b10) (cs := #[.int .u64 qx, .int .u64 qy]) (t := 37) (by simp) 0 rfl, HR.cell hq0 (b := b10) (cs := #[.int .u64 qx, .int .u64 qy]) (t := 37) (by simp) 1 rfl, HR.cell hq0 (b := b4) (cs := #[.int .u64 x, .int .u64 y]) (t := 37) (by simp) 0 rfl, HR.cell hq0 (b := b4) (cs := #[.int .u64 x, .int .u64 y]) (t := 37) (by simp) 1 rfl, hq0⟩
          refine takeH 0 (fun _ _ _ _ _ h => h) (by kernel_rfl) hHeld rfl (by kernel_rfl) (by rfl) (v := ?_) ?_ ?_
          rotate_left
          ((intro wz hz; (try dsimp only at hz); go_simp) <;> with_reducible rfl)
          try simp only [Act.put, List.setIfInBounds_toArray, List.set_cons_zero, List.set_cons_succ]
          refine takeH 1 (fun _ _ _ _ _ h => h) (by kernel_rfl) hHeld rfl (by kernel_rfl) (by rfl) (v := ?_) ?_ ?_
          rotate_left
          ((intro wz hz; (try dsimp only at hz); go_simp) <;> with_reducible rfl)
          try simp only [Act.put, List.setIfInBounds_toArray, List.set_cons_zero, List.set_cons_succ]
          refine takeH 2 (fun _ _ _ _ _ h => h) (by kernel_rfl) hHeld rfl (by kernel_rfl) (by rfl) (v := ?_) ?_ ?_
          rotate_left
          ((intro wz hz; (try dsimp only at hz); go_simp) <;> with_reducible rfl)
          try simp only [Act.put, List.setIfInBounds_toArray, List.set_cons_zero, List.set_cons_succ]
          refine takeH 3 (fun _ _ _ _ _ h => h) (by kernel_rfl) hHeld rfl (by kernel_rfl) (by rfl) (v := ?_) ?_ ?_
          rotate_left
          ((intro wz hz; (try dsimp only at hz); go_simp) <;> with_reducible rfl)
          try simp only [Act.put, List.setIfInBounds_toArray, List.set_cons_zero, List.set_cons_succ]
          refine takeH 4 (fun _ _ _ _ _ h => h) (by kernel_rfl) hHeld rfl (by kernel_rfl) (by rfl) (v := ?_) ?_ ?_
          rotate_left
          ((intro wz hz; (try dsimp only at hz); go_simp) <;> with_reducible rfl)
          try simp only [Act.put, List.setIfInBounds_toArray, List.set_cons_zero, List.set_cons_succ]
          refine takeH 6 (fun _ _ _ _ _ h => h) (by kernel_rfl) hHeld rfl (by kernel_rfl) (by rfl) (v := ?_) ?_ ?_
          rotate_left
          ((intro wz hz; (try dsimp only at hz); go_simp) <;> with_reducible rfl)
          try simp only [Act.put, List.setIfInBounds_toArray, List.set_cons_zero, List.set_cons_succ]
          refine stepH 5 (by kernel_rfl) rfl (by rfl) (fun K hK => ?_)
          go_simp
          refine (r7Gen _).mono ?_
          rintro e wc1 ⟨rfl, hbc1⟩
          have hrc1 := HR.next hHeld.2.2.2.2 hbc1
          refine hK.out _ _ ?_ (fun hHeld => ?_)
          · exact ⟨HR.cell hrc1 (b := b10) (cs := #[.int .u64 qx, .int .u64 qy]) (t := 37) (by simp) 0 rfl, HR.cell hrc1 (b := b10) (cs := #[.int .u64 qx, .int .u64 qy]) (t := 37) (by simp) 1 rfl, HR.cell hrc1 (b := b4) (cs := #[.int .u64 x, .int .u64 y]) (t := 37) (by simp) 0 rfl, HR.cell hrc1 (b := b4) (cs := #[.int .u64 x, .int .u64 y]) (t := 37) (by simp) 1 rfl, hrc1⟩
          clear hK K
          try simp only [Act.put, List.setIfInBounds_toArray, List.set_cons_zero, List.set_cons_succ]
          refine stepH 7 (by kernel_rfl) rfl (by rfl) (fun K hK => ?_)
          go_simp
          refine (cT.out _).mono ?_
          rintro e wc2 ⟨rfl, hbc2⟩
          have hrc2 := HR.next hHeld.2.2.2.2 hbc2
          refine hK.out _ _ ?_ (fun hHeld => ?_)
          · exact ⟨HR.cell hrc2 (b := b10) (cs := #[.int .u64 qx, .int .u64 qy]) (t := 37) (by simp) 0 rfl, HR.cell hrc2 (b := b10) (cs := #[.int .u64 qx, .int .u64 qy]) (t := 37) (by simp) 1 rfl, HR.cell hrc2 (b := b4) (cs := #[.int .u64 x, .int .u64 y]) (t := 37) (by simp) 0 rfl, HR.cell hrc2 (b := b4) (cs := #[.int .u64 x, .int .u64 y]) (t := 37) (by simp) 1 rfl, hrc2⟩
          clear hK K
          try simp only [Act.put, List.setIfInBounds_toArray, List.set_cons_zero, List.set_cons_succ]
          refine stepH 8 (by kernel_rfl) rfl (by rfl) (fun K hK => ?_)
          go_simp
          refine (cA.out _).mono ?_
          rintro e wc3 ⟨rfl, hbc3⟩
          have hrc3 := HR.next hHeld.2.2.2.2 hbc3
          refine hK.out _ _ ?_ (fun hHeld => ?_)
          · exact ⟨HR.cell hrc3 (b := b10) (cs := #[.int .u64 qx, .int .u64 qy]) (t := 37) (by simp) 0 rfl, HR.cell hrc3 (b := b10) (cs := #[.int .u64 qx, .int .u64 qy]) (t := 37) (by simp) 1 rfl, HR.cell hrc3 (b := b4) (cs := #[.int .u64 x, .int .u64 y]) (t := 37) (by simp) 0 rfl, HR.cell hrc3 (b := b4) (cs := #[.int .u64 x, .int .u64 y]) (t := 37) (by simp) 1 rfl, hrc3⟩
          clear hK K
          try simp only [Act.put, List.setIfInBounds_toArray, List.set_cons_zero, List.set_cons_succ]
          refine takeH 9 (fun _ _ _ _ _ h => h) (by kernel_rfl) hHeld rfl (by kernel_rfl) (by rfl) (v := ?_) ?_ ?_
          rotate_left
          ((intro wz hz; (try dsimp only at hz); go_simp) <;> with_reducible rfl)
          try simp only [Act.put, List.setIfInBounds_toArray, List.set_cons_zero, List.set_cons_succ]
          refine takeH 10 (fun _ _ _ _ _ h => h) (by kernel_rfl) hHeld rfl (by kernel_rfl) (by rfl) (v := ?_) ?_ ?_
          rotate_left
          ((intro wz hz; (try dsimp only at hz); go_simp) <;> with_reducible rfl)
          try simp only [Act.put, List.setIfInBounds_toArray, List.set_cons_zero, List.set_cons_succ]
          refine wpAnyH_done (by kernel_rfl) (NoPanic.normal ?_) _
          have H7 := Lib.hid hHeld.2.2.2.2
          clear hHeld
          clear c_b10_0 c_b10_1 c_b4_0 c_b4_1
          go_wp2_with fail
          refine (lKeyY k hK.out.1 hK.out.2 _).mono ?_
          rintro e w8 ⟨rfl, rfl⟩
          go_wp2_with fail
          refine (cD.out _).mono ?_
          rintro e w9 ⟨rfl, rfl⟩
          go_wp2_with fail
          go_ret
          exact ⟨rfl, H7.out.2⟩
        · have cD := fun w => r1Add 72057593894066549 k t (by omega) (by omega) k0 t0 w
          have cU := fun w => sTurnY k t hk.1 hk.2 t0 (by assumption) hz w
          rw [litSn] at cD
          obtain ⟨s, hs⟩ : ∃ s : Int, ((Obol.addM 72057593894066549 k.toNat t.toNat : Nat) : Int) = s := ⟨_, rfl⟩
          rw [hs] at cD cU
          have hs0 : ¬ s = 0 := by omega
          have hs1 : (s == 0) = false := beq_eq_false_iff_ne.2 hs0
          have hK := Lib.hid hk
          replace cD := Lib.hid cD
          replace cU := Lib.hid cU
          clear hk hz hs
          go_enter Tryd.func9, Tryd.ntmps9
          go_wp2_with fail
          have H0 := Lib.hid ((HR.refl w).new #[.int .u64 x, .int .u64 y] 37)
          generalize w.alloc (.cells #[.int .u64 x, .int .u64 y] 37) = w0 at H0 ⊢
          generalize w.heap.size = b4 at H0 ⊢
          refine (hU.out _ H0.out.2).mono ?_
          rintro e w1 ⟨rfl, hb1⟩
          have H1 := Lib.hid (H0.out.next hb1)
          clear hb1 H0
          have c_b4_0 := H1.out.cell (b := b4) (cs := #[.int .u64 x, .int .u64 y]) (t := 37) (by simp) 0 rfl
          have c_b4_1 := H1.out.cell (b := b4) (cs := #[.int .u64 x, .int .u64 y]) (t := 37) (by simp) 1 rfl
          go_wp2_with fail
          refine (cU.out _).mono ?_
          rintro e w2 ⟨rfl, n2, rfl⟩
          have H2 := Lib.hid (H1.out.drewN n2)
          clear H1
          go_wp2_with fail
          clear c_b4_0 c_b4_1
          refine (cO.out _).mono ?_
          rintro e w3 ⟨rfl, hb3⟩
          have H3 := Lib.hid ((H2.out.next hb3).new #[.int .u64 qx, .int .u64 qy] 37)
          clear hb3 H2
          go_upto_region 4 with fail
          generalize w3.alloc (.cells #[.int .u64 qx, .int .u64 qy] 37) = w4 at H3 ⊢
          generalize w3.heap.size = b10 at H3 ⊢
          have c_b10_0 := H3.out.cell (b := b10) (cs := #[.int .u64 qx, .int .u64 qy]) (t := 37) (by simp) 0 rfl
          have c_b10_1 := H3.out.cell (b := b10) (cs := #[.int .u64 qx, .int .u64 qy]) (t := 37) (by simp) 1 rfl
          have c_b4_0 := H3.out.cell (b := b4) (cs := #[.int .u64 x, .int .u64 y]) (t := 37) (by simp) 0 rfl
          have c_b4_1 := H3.out.cell (b := b4) (cs := #[.int .u64 x, .int .u64 y]) (t := 37) (by simp) 1 rfl
          go_wp2_with fail
          refine (hI.out _).mono ?_
          rintro e w5 ⟨rfl, hb5⟩
          have H5 := Lib.hid (H3.out.next hb5)
          clear hb5 H3
          clear c_b10_0 c_b10_1 c_b4_0 c_b4_1
          have c_b10_0 := H5.out.cell (b := b10) (cs := #[.int .u64 qx, .int .u64 qy]) (t := 37) (by simp) 0 rfl
          have c_b10_1 := H5.out.cell (b := b10) (cs := #[.int .u64 qx, .int .u64 qy]) (t := 37) (by simp) 1 rfl
          have c_b4_0 := H5.out.cell (b := b4) (cs := #[.int .u64 x, .int .u64 y]) (t := 37) (by simp) 0 rfl
          have c_b4_1 := H5.out.cell (b := b4) (cs := #[.int .u64 x, .int .u64 y]) (t := 37) (by simp) 1 rfl
          go_wp2_with fail
          refine wp_region_noPanic ?_
          refine wp_region_held_drew (S := fun wq => wq.cell? ⟨b10, 0, none⟩ = some (.int .u64 qx) ∧ wq.cell? ⟨b10, 1, none⟩ = some (.int .u64 qy) ∧ wq.cell? ⟨b4, 0, none⟩ = some (.int .u64 x) ∧ wq.cell? ⟨b4, 1, none⟩ = some (.int .u64 y) ∧ HR w wq [(b10, #[.int .u64 qx, .int .u64 qy], 37), (b4, #[.int .u64 x, .int .u64 y], 37)]) (by kernel_rfl) ?_ (fun hHeld => ?_)
          · have hq0 := HR.drew H5.out
            exact ⟨HR.cell hq0 (b := b10) (cs := #[.int .u64 qx, .int .u64 qy]) (t := 37) (by simp) 0 rfl, HR.cell hq0 (b := b10) (cs := #[.int .u64 qx, .int .u64 qy]) (t := 37) (by simp) 1 rfl, HR.cell hq0 (b := b4) (cs := #[.int .u64 x, .int .u64 y]) (t := 37) (by simp) 0 rfl, HR.cell hq0 (b := b4) (cs := #[.int .u64 x, .int .u64 y]) (t := 37) (by simp) 1 rfl, hq0⟩
          refine takeH 0 (fun _ _ _ _ _ h => h) (by kernel_rfl) hHeld rfl (by kernel_rfl) (by rfl) (v := ?_) ?_ ?_
          rotate_left
          ((intro wz hz; (try dsimp only at hz); go_simp) <;> with_reducible rfl)
          try simp only [Act.put, List.setIfInBounds_toArray, List.set_cons_zero, List.set_cons_succ]
          refine takeH 1 (fun _ _ _ _ _ h => h) (by kernel_rfl) hHeld rfl (by kernel_rfl) (by rfl) (v := ?_) ?_ ?_
          rotate_left
          ((intro wz hz; (try dsimp only at hz); go_simp) <;> with_reducible rfl)
          try simp only [Act.put, List.setIfInBounds_toArray, List.set_cons_zero, List.set_cons_succ]
          refine takeH 2 (fun _ _ _ _ _ h => h) (by kernel_rfl) hHeld rfl (by kernel_rfl) (by rfl) (v := ?_) ?_ ?_
          rotate_left
          ((intro wz hz; (try dsimp only at hz); go_simp) <;> with_reducible rfl)
          try simp only [Act.put, List.setIfInBounds_toArray, List.set_cons_zero, List.set_cons_succ]
          refine takeH 3 (fun _ _ _ _ _ h => h) (by kernel_rfl) hHeld rfl (by kernel_rfl) (by rfl) (v := ?_) ?_ ?_
          rotate_left
          ((intro wz hz; (try dsimp only at hz); go_simp) <;> with_reducible rfl)
          try simp only [Act.put, List.setIfInBounds_toArray, List.set_cons_zero, List.set_cons_succ]
          refine takeH 4 (fun _ _ _ _ _ h => h) (by kernel_rfl) hHeld rfl (by kernel_rfl) (by rfl) (v := ?_) ?_ ?_
          rotate_left
          ((intro wz hz; (try dsimp only at hz); go_simp) <;> with_reducible rfl)
          try simp only [Act.put, List.setIfInBounds_toArray, List.set_cons_zero, List.set_cons_succ]
          refine takeH 6 (fun _ _ _ _ _ h => h) (by kernel_rfl) hHeld rfl (by kernel_rfl) (by rfl) (v := ?_) ?_ ?_
          rotate_left
          ((intro wz hz; (try dsimp only at hz); go_simp) <;> with_reducible rfl)
          try simp only [Act.put, List.setIfInBounds_toArray, List.set_cons_zero, List.set_cons_succ]
          refine stepH 5 (by kernel_rfl) rfl (by rfl) (fun K hK => ?_)
          go_simp
          refine (r7Gen _).mono ?_
          rintro e wc1 ⟨rfl, hbc1⟩
          have hrc1 := HR.next hHeld.2.2.2.2 hbc1
          refine hK.out _ _ ?_ (fun hHeld => ?_)
          · exact ⟨HR.cell hrc1 (b := b10) (cs := #[.int .u64 qx, .int .u64 qy]) (t := 37) (by simp) 0 rfl, HR.cell hrc1 (b := b10) (cs := #[.int .u64 qx, .int .u64 qy]) (t := 37) (by simp) 1 rfl, HR.cell hrc1 (b := b4) (cs := #[.int .u64 x, .int .u64 y]) (t := 37) (by simp) 0 rfl, HR.cell hrc1 (b := b4) (cs := #[.int .u64 x, .int .u64 y]) (t := 37) (by simp) 1 rfl, hrc1⟩
          clear hK K
          try simp only [Act.put, List.setIfInBounds_toArray, List.set_cons_zero, List.set_cons_succ]
          refine stepH 7 (by kernel_rfl) rfl (by rfl) (fun K hK => ?_)
          go_simp
          refine (cT.out _).mono ?_
          rintro e wc2 ⟨rfl, hbc2⟩
          have hrc2 := HR.next hHeld.2.2.2.2 hbc2
          refine hK.out _ _ ?_ (fun hHeld => ?_)
          · exact ⟨HR.cell hrc2 (b := b10) (cs := #[.int .u64 qx, .int .u64 qy]) (t := 37) (by simp) 0 rfl, HR.cell hrc2 (b := b10) (cs := #[.int .u64 qx, .int .u64 qy]) (t := 37) (by simp) 1 rfl, HR.cell hrc2 (b := b4) (cs := #[.int .u64 x, .int .u64 y]) (t := 37) (by simp) 0 rfl, HR.cell hrc2 (b := b4) (cs := #[.int .u64 x, .int .u64 y]) (t := 37) (by simp) 1 rfl, hrc2⟩
          clear hK K
          try simp only [Act.put, List.setIfInBounds_toArray, List.set_cons_zero, List.set_cons_succ]
          refine stepH 8 (by kernel_rfl) rfl (by rfl) (fun K hK => ?_)
          go_simp
          refine (cA.out _).mono ?_
          rintro e wc3 ⟨rfl, hbc3⟩
          have hrc3 := HR.next hHeld.2.2.2.2 hbc3
          refine hK.out _ _ ?_ (fun hHeld => ?_)
          · exact ⟨HR.cell hrc3 (b := b10) (cs := #[.int .u64 qx, .int .u64 qy]) (t := 37) (by simp) 0 rfl, HR.cell hrc3 (b := b10) (cs := #[.int .u64 qx, .int .u64 qy]) (t := 37) (by simp) 1 rfl, HR.cell hrc3 (b := b4) (cs := #[.int .u64 x, .int .u64 y]) (t := 37) (by simp) 0 rfl, HR.cell hrc3 (b := b4) (cs := #[.int .u64 x, .int .u64 y]) (t := 37) (by simp) 1 rfl, hrc3⟩
          clear hK K
          try simp only [Act.put, List.setIfInBounds_toArray, List.set_cons_zero, List.set_cons_succ]
          refine takeH 9 (fun _ _ _ _ _ h => h) (by kernel_rfl) hHeld rfl (by kernel_rfl) (by rfl) (v := ?_) ?_ ?_
          rotate_left
          ((intro wz hz; (try dsimp only at hz); go_simp) <;> with_reducible rfl)
          try simp only [Act.put, List.setIfInBounds_toArray, List.set_cons_zero, List.set_cons_succ]
          refine takeH 10 (fun _ _ _ _ _ h => h) (by kernel_rfl) hHeld rfl (by kernel_rfl) (by rfl) (v := ?_) ?_ ?_
          rotate_left
          ((intro wz hz; (try dsimp only at hz); go_simp) <;> with_reducible rfl)
          try simp only [Act.put, List.setIfInBounds_toArray, List.set_cons_zero, List.set_cons_succ]
          refine wpAnyH_done (by kernel_rfl) (NoPanic.normal ?_) _
          have H7 := Lib.hid hHeld.2.2.2.2
          clear hHeld
          clear c_b10_0 c_b10_1 c_b4_0 c_b4_1
          go_wp2_with fail
          refine (lKeyY k hK.out.1 hK.out.2 _).mono ?_
          rintro e w8 ⟨rfl, rfl⟩
          go_wp2_with fail
          refine (cD.out _).mono ?_
          rintro e w9 ⟨rfl, rfl⟩
          go_wp2_with fail
          go_ret
          exact ⟨rfl, H7.out.2⟩
      · have hK := Lib.hid hk
        clear hk
        go_enter Tryd.func9, Tryd.ntmps9
        go_wp2_with fail
        have H0 := Lib.hid ((HR.refl w).new #[.int .u64 x, .int .u64 y] 37)
        generalize w.alloc (.cells #[.int .u64 x, .int .u64 y] 37) = w0 at H0 ⊢
        generalize w.heap.size = b4 at H0 ⊢
        refine (hU.out _ H0.out.2).mono ?_
        rintro e w1 ⟨rfl, hb1⟩
        have H1 := Lib.hid (H0.out.next hb1)
        clear hb1 H0
        have c_b4_0 := H1.out.cell (b := b4) (cs := #[.int .u64 x, .int .u64 y]) (t := 37) (by simp) 0 rfl
        have c_b4_1 := H1.out.cell (b := b4) (cs := #[.int .u64 x, .int .u64 y]) (t := 37) (by simp) 1 rfl
        go_wp2_with fail
        refine (sTurnK k t k0 hK.out _).mono ?_
        rintro e w2 ⟨rfl, rfl⟩
        have H2 := H1
        clear H1
        go_wp2_with fail
        clear c_b4_0 c_b4_1
        refine (cO.out _).mono ?_
        rintro e w3 ⟨rfl, hb3⟩
        have H3 := Lib.hid ((H2.out.next hb3).new #[.int .u64 qx, .int .u64 qy] 37)
        clear hb3 H2
        go_upto_region 4 with fail
        generalize w3.alloc (.cells #[.int .u64 qx, .int .u64 qy] 37) = w4 at H3 ⊢
        generalize w3.heap.size = b10 at H3 ⊢
        have c_b10_0 := H3.out.cell (b := b10) (cs := #[.int .u64 qx, .int .u64 qy]) (t := 37) (by simp) 0 rfl
        have c_b10_1 := H3.out.cell (b := b10) (cs := #[.int .u64 qx, .int .u64 qy]) (t := 37) (by simp) 1 rfl
        have c_b4_0 := H3.out.cell (b := b4) (cs := #[.int .u64 x, .int .u64 y]) (t := 37) (by simp) 0 rfl
        have c_b4_1 := H3.out.cell (b := b4) (cs := #[.int .u64 x, .int .u64 y]) (t := 37) (by simp) 1 rfl
        go_wp2_with fail
        refine (hI.out _).mono ?_
        rintro e w5 ⟨rfl, hb5⟩
        have H5 := Lib.hid (H3.out.next hb5)
        clear hb5 H3
        clear c_b10_0 c_b10_1 c_b4_0 c_b4_1
        have c_b10_0 := H5.out.cell (b := b10) (cs := #[.int .u64 qx, .int .u64 qy]) (t := 37) (by simp) 0 rfl
        have c_b10_1 := H5.out.cell (b := b10) (cs := #[.int .u64 qx, .int .u64 qy]) (t := 37) (by simp) 1 rfl
        have c_b4_0 := H5.out.cell (b := b4) (cs := #[.int .u64 x, .int .u64 y]) (t := 37) (by simp) 0 rfl
        have c_b4_1 := H5.out.cell (b := b4) (cs := #[.int .u64 x, .int .u64 y]) (t := 37) (by simp) 1 rfl
        go_wp2_with fail
        refine wp_region_noPanic ?_
        refine wp_region_held_drew (S := fun wq => wq.cell? ⟨b10, 0, none⟩ = some (.int .u64 qx) ∧ wq.cell? ⟨b10, 1, none⟩ = some (.int .u64 qy) ∧ wq.cell? ⟨b4, 0, none⟩ = some (.int .u64 x) ∧ wq.cell? ⟨b4, 1, none⟩ = some (.int .u64 y) ∧ HR w wq [(b10, #[.int .u64 qx, .int .u64 qy], 37), (b4, #[.int .u64 x, .int .u64 y], 37)]) (by kernel_rfl) ?_ (fun hHeld => ?_)
        · have hq0 := HR.drew H5.out
          exact ⟨HR.cell hq0 (b := b10) (cs := #[.int .u64 qx, .int .u64 qy]) (t := 37) (by simp) 0 rfl, HR.cell hq0 (b := b10) (cs := #[.int .u64 qx, .int .u64 qy]) (t := 37) (by simp) 1 rfl, HR.cell hq0 (b := b4) (cs := #[.int .u64 x, .int .u64 y]) (t := 37) (by simp) 0 rfl, HR.cell hq0 (b := b4) (cs := #[.int .u64 x, .int .u64 y]) (t := 37) (by simp) 1 rfl, hq0⟩
        refine takeH 0 (fun _ _ _ _ _ h => h) (by kernel_rfl) hHeld rfl (by kernel_rfl) (by rfl) (v := ?_) ?_ ?_
        rotate_left
        ((intro wz hz; (try dsimp only at hz); go_simp) <;> with_reducible rfl)
        try simp only [Act.put, List.setIfInBounds_toArray, List.set_cons_zero, List.set_cons_succ]
        refine takeH 1 (fun _ _ _ _ _ h => h) (by kernel_rfl) hHeld rfl (by kernel_rfl) (by rfl) (v := ?_) ?_ ?_
        rotate_left
        ((intro wz hz; (try dsimp only at hz); go_simp) <;> with_reducible rfl)
        try simp only [Act.put, List.setIfInBounds_toArray, List.set_cons_zero, List.set_cons_succ]
        refine takeH 2 (fun _ _ _ _ _ h => h) (by kernel_rfl) hHeld rfl (by kernel_rfl) (by rfl) (v := ?_) ?_ ?_
        rotate_left
        ((intro wz hz; (try dsimp only at hz); go_simp) <;> with_reducible rfl)
        try simp only [Act.put, List.setIfInBounds_toArray, List.set_cons_zero, List.set_cons_succ]
        refine takeH 3 (fun _ _ _ _ _ h => h) (by kernel_rfl) hHeld rfl (by kernel_rfl) (by rfl) (v := ?_) ?_ ?_
        rotate_left
        ((intro wz hz; (try dsimp only at hz); go_simp) <;> with_reducible rfl)
        try simp only [Act.put, List.setIfInBounds_toArray, List.set_cons_zero, List.set_cons_succ]
        refine takeH 4 (fun _ _ _ _ _ h => h) (by kernel_rfl) hHeld rfl (by kernel_rfl) (by rfl) (v := ?_) ?_ ?_
        rotate_left
        ((intro wz hz; (try dsimp only at hz); go_simp) <;> with_reducible rfl)
        try simp only [Act.put, List.setIfInBounds_toArray, List.set_cons_zero, List.set_cons_succ]
        refine takeH 6 (fun _ _ _ _ _ h => h) (by kernel_rfl) hHeld rfl (by kernel_rfl) (by rfl) (v := ?_) ?_ ?_
        rotate_left
        ((intro wz hz; (try dsimp only at hz); go_simp) <;> with_reducible rfl)
        try simp only [Act.put, List.setIfInBounds_toArray, List.set_cons_zero, List.set_cons_succ]
        refine stepH 5 (by kernel_rfl) rfl (by rfl) (fun K hK => ?_)
        go_simp
        refine (r7Gen _).mono ?_
        rintro e wc1 ⟨rfl, hbc1⟩
        have hrc1 := HR.next hHeld.2.2.2.2 hbc1
        refine hK.out _ _ ?_ (fun hHeld => ?_)
        · exact ⟨HR.cell hrc1 (b := b10) (cs := #[.int .u64 qx, .int .u64 qy]) (t := 37) (by simp) 0 rfl, HR.cell hrc1 (b := b10) (cs := #[.int .u64 qx, .int .u64 qy]) (t := 37) (by simp) 1 rfl, HR.cell hrc1 (b := b4) (cs := #[.int .u64 x, .int .u64 y]) (t := 37) (by simp) 0 rfl, HR.cell hrc1 (b := b4) (cs := #[.int .u64 x, .int .u64 y]) (t := 37) (by simp) 1 rfl, hrc1⟩
        clear hK K
        try simp only [Act.put, List.setIfInBounds_toArray, List.set_cons_zero, List.set_cons_succ]
        refine stepH 7 (by kernel_rfl) rfl (by rfl) (fun K hK => ?_)
        go_simp
        refine (cT.out _).mono ?_
        rintro e wc2 ⟨rfl, hbc2⟩
        have hrc2 := HR.next hHeld.2.2.2.2 hbc2
        refine hK.out _ _ ?_ (fun hHeld => ?_)
        · exact ⟨HR.cell hrc2 (b := b10) (cs := #[.int .u64 qx, .int .u64 qy]) (t := 37) (by simp) 0 rfl, HR.cell hrc2 (b := b10) (cs := #[.int .u64 qx, .int .u64 qy]) (t := 37) (by simp) 1 rfl, HR.cell hrc2 (b := b4) (cs := #[.int .u64 x, .int .u64 y]) (t := 37) (by simp) 0 rfl, HR.cell hrc2 (b := b4) (cs := #[.int .u64 x, .int .u64 y]) (t := 37) (by simp) 1 rfl, hrc2⟩
        clear hK K
        try simp only [Act.put, List.setIfInBounds_toArray, List.set_cons_zero, List.set_cons_succ]
        refine stepH 8 (by kernel_rfl) rfl (by rfl) (fun K hK => ?_)
        go_simp
        refine (cA.out _).mono ?_
        rintro e wc3 ⟨rfl, hbc3⟩
        have hrc3 := HR.next hHeld.2.2.2.2 hbc3
        refine hK.out _ _ ?_ (fun hHeld => ?_)
        · exact ⟨HR.cell hrc3 (b := b10) (cs := #[.int .u64 qx, .int .u64 qy]) (t := 37) (by simp) 0 rfl, HR.cell hrc3 (b := b10) (cs := #[.int .u64 qx, .int .u64 qy]) (t := 37) (by simp) 1 rfl, HR.cell hrc3 (b := b4) (cs := #[.int .u64 x, .int .u64 y]) (t := 37) (by simp) 0 rfl, HR.cell hrc3 (b := b4) (cs := #[.int .u64 x, .int .u64 y]) (t := 37) (by simp) 1 rfl, hrc3⟩
        clear hK K
        try simp only [Act.put, List.setIfInBounds_toArray, List.set_cons_zero, List.set_cons_succ]
        refine takeH 9 (fun _ _ _ _ _ h => h) (by kernel_rfl) hHeld rfl (by kernel_rfl) (by rfl) (v := ?_) ?_ ?_
        rotate_left
        ((intro wz hz; (try dsimp only at hz); go_simp) <;> with_reducible rfl)
        try simp only [Act.put, List.setIfInBounds_toArray, List.set_cons_zero, List.set_cons_succ]
        refine takeH 10 (fun _ _ _ _ _ h => h) (by kernel_rfl) hHeld rfl (by kernel_rfl) (by rfl) (v := ?_) ?_ ?_
        rotate_left
        ((intro wz hz; (try dsimp only at hz); go_simp) <;> with_reducible rfl)
        try simp only [Act.put, List.setIfInBounds_toArray, List.set_cons_zero, List.set_cons_succ]
        refine wpAnyH_done (by kernel_rfl) (NoPanic.normal ?_) _
        have H7 := Lib.hid hHeld.2.2.2.2
        clear hHeld
        clear c_b10_0 c_b10_1 c_b4_0 c_b4_1
        go_wp2_with fail
        refine (lKeyN k k0 hK.out _).mono ?_
        rintro e w8 ⟨rfl, rfl⟩
        go_wp2_with fail
        go_ret
        exact ⟨rfl, H7.out.2⟩
  · have ht' : 72057593894066549 ≤ t := by omega
    cases hin : inN (x.toNat, y.toNat)
    · have hI := fun w => r7In x y x0 y0 w
      rw [hin] at hI
      have hi := Lib.hid hin
      replace hI := Lib.hid hI
      clear hin
      by_cases hk : 1 ≤ k ∧ k < 72057593894066549
      · have hK := Lib.hid hk
        clear hk
        go_enter Tryd.func9, Tryd.ntmps9
        go_wp2_with fail
        have H0 := Lib.hid ((HR.refl w).new #[.int .u64 x, .int .u64 y] 37)
        generalize w.alloc (.cells #[.int .u64 x, .int .u64 y] 37) = w0 at H0 ⊢
        generalize w.heap.size = b4 at H0 ⊢
        refine (hU.out _ H0.out.2).mono ?_
        rintro e w1 ⟨rfl, hb1⟩
        have H1 := Lib.hid (H0.out.next hb1)
        clear hb1 H0
        have c_b4_0 := H1.out.cell (b := b4) (cs := #[.int .u64 x, .int .u64 y]) (t := 37) (by simp) 0 rfl
        have c_b4_1 := H1.out.cell (b := b4) (cs := #[.int .u64 x, .int .u64 y]) (t := 37) (by simp) 1 rfl
        go_wp2_with fail
        refine (sTurnT k t hK.out.1 hK.out.2 (by assumption) _).mono ?_
        rintro e w2 ⟨rfl, rfl⟩
        have H2 := H1
        clear H1
        go_wp2_with fail
        clear c_b4_0 c_b4_1
        refine (sTpI x y t x0 y0 hi.out _).mono ?_
        rintro e w3 ⟨rfl, hb3⟩
        have H3 := Lib.hid ((H2.out.next hb3).new #[.int .u64 0, .int .u64 0] 37)
        clear hb3 H2
        go_upto_region 4 with fail
        generalize w3.alloc (.cells #[.int .u64 0, .int .u64 0] 37) = w4 at H3 ⊢
        generalize w3.heap.size = b10 at H3 ⊢
        have c_b10_0 := H3.out.cell (b := b10) (cs := #[.int .u64 0, .int .u64 0]) (t := 37) (by simp) 0 rfl
        have c_b10_1 := H3.out.cell (b := b10) (cs := #[.int .u64 0, .int .u64 0]) (t := 37) (by simp) 1 rfl
        have c_b4_0 := H3.out.cell (b := b4) (cs := #[.int .u64 x, .int .u64 y]) (t := 37) (by simp) 0 rfl
        have c_b4_1 := H3.out.cell (b := b4) (cs := #[.int .u64 x, .int .u64 y]) (t := 37) (by simp) 1 rfl
        go_wp2_with fail
        refine (hI.out _).mono ?_
        rintro e w5 ⟨rfl, hb5⟩
        have H5 := Lib.hid (H3.out.next hb5)
        clear hb5 H3
        clear c_b10_0 c_b10_1 c_b4_0 c_b4_1
        have c_b10_0 := H5.out.cell (b := b10) (cs := #[.int .u64 0, .int .u64 0]) (t := 37) (by simp) 0 rfl
        have c_b10_1 := H5.out.cell (b := b10) (cs := #[.int .u64 0, .int .u64 0]) (t := 37) (by simp) 1 rfl
        have c_b4_0 := H5.out.cell (b := b4) (cs := #[.int .u64 x, .int .u64 y]) (t := 37) (by simp) 0 rfl
        have c_b4_1 := H5.out.cell (b := b4) (cs := #[.int .u64 x, .int .u64 y]) (t := 37) (by simp) 1 rfl
        go_wp2_with fail
        clear c_b10_0 c_b10_1 c_b4_0 c_b4_1
        refine (lKeyY k hK.out.1 hK.out.2 _).mono ?_
        rintro e w8 ⟨rfl, rfl⟩
        go_wp2_with fail
        go_ret
        exact ⟨rfl, H5.out.2⟩
      · have hK := Lib.hid hk
        clear hk
        go_enter Tryd.func9, Tryd.ntmps9
        go_wp2_with fail
        have H0 := Lib.hid ((HR.refl w).new #[.int .u64 x, .int .u64 y] 37)
        generalize w.alloc (.cells #[.int .u64 x, .int .u64 y] 37) = w0 at H0 ⊢
        generalize w.heap.size = b4 at H0 ⊢
        refine (hU.out _ H0.out.2).mono ?_
        rintro e w1 ⟨rfl, hb1⟩
        have H1 := Lib.hid (H0.out.next hb1)
        clear hb1 H0
        have c_b4_0 := H1.out.cell (b := b4) (cs := #[.int .u64 x, .int .u64 y]) (t := 37) (by simp) 0 rfl
        have c_b4_1 := H1.out.cell (b := b4) (cs := #[.int .u64 x, .int .u64 y]) (t := 37) (by simp) 1 rfl
        go_wp2_with fail
        refine (sTurnK k t k0 hK.out _).mono ?_
        rintro e w2 ⟨rfl, rfl⟩
        have H2 := H1
        clear H1
        go_wp2_with fail
        clear c_b4_0 c_b4_1
        refine (sTpI x y t x0 y0 hi.out _).mono ?_
        rintro e w3 ⟨rfl, hb3⟩
        have H3 := Lib.hid ((H2.out.next hb3).new #[.int .u64 0, .int .u64 0] 37)
        clear hb3 H2
        go_upto_region 4 with fail
        generalize w3.alloc (.cells #[.int .u64 0, .int .u64 0] 37) = w4 at H3 ⊢
        generalize w3.heap.size = b10 at H3 ⊢
        have c_b10_0 := H3.out.cell (b := b10) (cs := #[.int .u64 0, .int .u64 0]) (t := 37) (by simp) 0 rfl
        have c_b10_1 := H3.out.cell (b := b10) (cs := #[.int .u64 0, .int .u64 0]) (t := 37) (by simp) 1 rfl
        have c_b4_0 := H3.out.cell (b := b4) (cs := #[.int .u64 x, .int .u64 y]) (t := 37) (by simp) 0 rfl
        have c_b4_1 := H3.out.cell (b := b4) (cs := #[.int .u64 x, .int .u64 y]) (t := 37) (by simp) 1 rfl
        go_wp2_with fail
        refine (hI.out _).mono ?_
        rintro e w5 ⟨rfl, hb5⟩
        have H5 := Lib.hid (H3.out.next hb5)
        clear hb5 H3
        clear c_b10_0 c_b10_1 c_b4_0 c_b4_1
        have c_b10_0 := H5.out.cell (b := b10) (cs := #[.int .u64 0, .int .u64 0]) (t := 37) (by simp) 0 rfl
        have c_b10_1 := H5.out.cell (b := b10) (cs := #[.int .u64 0, .int .u64 0]) (t := 37) (by simp) 1 rfl
        have c_b4_0 := H5.out.cell (b := b4) (cs := #[.int .u64 x, .int .u64 y]) (t := 37) (by simp) 0 rfl
        have c_b4_1 := H5.out.cell (b := b4) (cs := #[.int .u64 x, .int .u64 y]) (t := 37) (by simp) 1 rfl
        go_wp2_with fail
        clear c_b10_0 c_b10_1 c_b4_0 c_b4_1
        refine (lKeyN k k0 hK.out _).mono ?_
        rintro e w8 ⟨rfl, rfl⟩
        go_wp2_with fail
        go_ret
        exact ⟨rfl, H5.out.2⟩
    · have hI := fun w => r7In x y x0 y0 w
      rw [hin] at hI
      have hi := Lib.hid hin
      replace hI := Lib.hid hI
      clear hin
      by_cases hk : 1 ≤ k ∧ k < 72057593894066549
      · have hK := Lib.hid hk
        clear hk
        go_enter Tryd.func9, Tryd.ntmps9
        go_wp2_with fail
        have H0 := Lib.hid ((HR.refl w).new #[.int .u64 x, .int .u64 y] 37)
        generalize w.alloc (.cells #[.int .u64 x, .int .u64 y] 37) = w0 at H0 ⊢
        generalize w.heap.size = b4 at H0 ⊢
        refine (hU.out _ H0.out.2).mono ?_
        rintro e w1 ⟨rfl, hb1⟩
        have H1 := Lib.hid (H0.out.next hb1)
        clear hb1 H0
        have c_b4_0 := H1.out.cell (b := b4) (cs := #[.int .u64 x, .int .u64 y]) (t := 37) (by simp) 0 rfl
        have c_b4_1 := H1.out.cell (b := b4) (cs := #[.int .u64 x, .int .u64 y]) (t := 37) (by simp) 1 rfl
        go_wp2_with fail
        refine (sTurnT k t hK.out.1 hK.out.2 (by assumption) _).mono ?_
        rintro e w2 ⟨rfl, rfl⟩
        have H2 := H1
        clear H1
        go_wp2_with fail
        clear c_b4_0 c_b4_1
        refine (sTpT x y t x0 y0 hi.out (by assumption) _).mono ?_
        rintro e w3 ⟨rfl, hb3⟩
        have H3 := Lib.hid ((H2.out.next hb3).new #[.int .u64 0, .int .u64 0] 37)
        clear hb3 H2
        go_upto_region 4 with fail
        generalize w3.alloc (.cells #[.int .u64 0, .int .u64 0] 37) = w4 at H3 ⊢
        generalize w3.heap.size = b10 at H3 ⊢
        have c_b10_0 := H3.out.cell (b := b10) (cs := #[.int .u64 0, .int .u64 0]) (t := 37) (by simp) 0 rfl
        have c_b10_1 := H3.out.cell (b := b10) (cs := #[.int .u64 0, .int .u64 0]) (t := 37) (by simp) 1 rfl
        have c_b4_0 := H3.out.cell (b := b4) (cs := #[.int .u64 x, .int .u64 y]) (t := 37) (by simp) 0 rfl
        have c_b4_1 := H3.out.cell (b := b4) (cs := #[.int .u64 x, .int .u64 y]) (t := 37) (by simp) 1 rfl
        go_wp2_with fail
        refine (hI.out _).mono ?_
        rintro e w5 ⟨rfl, hb5⟩
        have H5 := Lib.hid (H3.out.next hb5)
        clear hb5 H3
        clear c_b10_0 c_b10_1 c_b4_0 c_b4_1
        have c_b10_0 := H5.out.cell (b := b10) (cs := #[.int .u64 0, .int .u64 0]) (t := 37) (by simp) 0 rfl
        have c_b10_1 := H5.out.cell (b := b10) (cs := #[.int .u64 0, .int .u64 0]) (t := 37) (by simp) 1 rfl
        have c_b4_0 := H5.out.cell (b := b4) (cs := #[.int .u64 x, .int .u64 y]) (t := 37) (by simp) 0 rfl
        have c_b4_1 := H5.out.cell (b := b4) (cs := #[.int .u64 x, .int .u64 y]) (t := 37) (by simp) 1 rfl
        go_wp2_with fail
        clear c_b10_0 c_b10_1 c_b4_0 c_b4_1
        refine (lKeyY k hK.out.1 hK.out.2 _).mono ?_
        rintro e w8 ⟨rfl, rfl⟩
        go_wp2_with fail
        go_ret
        exact ⟨rfl, H5.out.2⟩
      · have hK := Lib.hid hk
        clear hk
        go_enter Tryd.func9, Tryd.ntmps9
        go_wp2_with fail
        have H0 := Lib.hid ((HR.refl w).new #[.int .u64 x, .int .u64 y] 37)
        generalize w.alloc (.cells #[.int .u64 x, .int .u64 y] 37) = w0 at H0 ⊢
        generalize w.heap.size = b4 at H0 ⊢
        refine (hU.out _ H0.out.2).mono ?_
        rintro e w1 ⟨rfl, hb1⟩
        have H1 := Lib.hid (H0.out.next hb1)
        clear hb1 H0
        have c_b4_0 := H1.out.cell (b := b4) (cs := #[.int .u64 x, .int .u64 y]) (t := 37) (by simp) 0 rfl
        have c_b4_1 := H1.out.cell (b := b4) (cs := #[.int .u64 x, .int .u64 y]) (t := 37) (by simp) 1 rfl
        go_wp2_with fail
        refine (sTurnK k t k0 hK.out _).mono ?_
        rintro e w2 ⟨rfl, rfl⟩
        have H2 := H1
        clear H1
        go_wp2_with fail
        clear c_b4_0 c_b4_1
        refine (sTpT x y t x0 y0 hi.out (by assumption) _).mono ?_
        rintro e w3 ⟨rfl, hb3⟩
        have H3 := Lib.hid ((H2.out.next hb3).new #[.int .u64 0, .int .u64 0] 37)
        clear hb3 H2
        go_upto_region 4 with fail
        generalize w3.alloc (.cells #[.int .u64 0, .int .u64 0] 37) = w4 at H3 ⊢
        generalize w3.heap.size = b10 at H3 ⊢
        have c_b10_0 := H3.out.cell (b := b10) (cs := #[.int .u64 0, .int .u64 0]) (t := 37) (by simp) 0 rfl
        have c_b10_1 := H3.out.cell (b := b10) (cs := #[.int .u64 0, .int .u64 0]) (t := 37) (by simp) 1 rfl
        have c_b4_0 := H3.out.cell (b := b4) (cs := #[.int .u64 x, .int .u64 y]) (t := 37) (by simp) 0 rfl
        have c_b4_1 := H3.out.cell (b := b4) (cs := #[.int .u64 x, .int .u64 y]) (t := 37) (by simp) 1 rfl
        go_wp2_with fail
        refine (hI.out _).mono ?_
        rintro e w5 ⟨rfl, hb5⟩
        have H5 := Lib.hid (H3.out.next hb5)
        clear hb5 H3
        clear c_b10_0 c_b10_1 c_b4_0 c_b4_1
        have c_b10_0 := H5.out.cell (b := b10) (cs := #[.int .u64 0, .int .u64 0]) (t := 37) (by simp) 0 rfl
        have c_b10_1 := H5.out.cell (b := b10) (cs := #[.int .u64 0, .int .u64 0]) (t := 37) (by simp) 1 rfl
        have c_b4_0 := H5.out.cell (b := b4) (cs := #[.int .u64 x, .int .u64 y]) (t := 37) (by simp) 0 rfl
        have c_b4_1 := H5.out.cell (b := b4) (cs := #[.int .u64 x, .int .u64 y]) (t := 37) (by simp) 1 rfl
        go_wp2_with fail
        clear c_b10_0 c_b10_1 c_b4_0 c_b4_1
        refine (lKeyN k k0 hK.out _).mono ?_
        rintro e w8 ⟨rfl, rfl⟩
        go_wp2_with fail
        go_ret
        exact ⟨rfl, H5.out.2⟩

end Go.Proofs.YtiffendfojhapaaDoor
