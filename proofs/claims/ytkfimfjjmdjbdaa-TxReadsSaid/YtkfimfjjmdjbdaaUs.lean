import Derived.Test.YtkfimfjjmdjbdaaUh
import Derived.Test.YtkfimfjjmdjbdaaUr
set_option linter.unusedVariables false
set_option linter.unusedSimpArgs false
set_option linter.unusedSectionVars false
/- Walks: the reference of layer 19: whether a transaction may be. -/
namespace Go.Proofs.Ytkfimfjjmdjbdaa
open Go.RowKit
set_option linter.unusedVariables false

theorem bigI {x : Int} (h : 0 ≤ x) : bigN x.toNat = decide (288230376287764481 ≤ x) := by
  unfold bigN
  rw [Bool.eq_iff_iff, decide_eq_true_eq, decide_eq_true_eq, Obol.R_def]
  omega
theorem c1_eq (t : TxD) (h : TxOk t) : c1 t = (!(decide (288230376287764481 ≤ t.root) || (decide (288230376287764481 ≤ t.e0) || (decide (288230376287764481 ≤ t.e1) || (decide (288230376287764481 ≤ t.m0) || (decide (288230376287764481 ≤ t.m1) || (decide (288230376287764481 ≤ t.a0) || decide (288230376287764481 ≤ t.a1)))))))
    && (decide (t.inn < 4294967296) && (decide (t.out < 4294967296) && decide (t.seq ≤ 1125899906842624)))) := by
  unfold c1 numsL
  simp only [List.any_cons, List.any_nil, Bool.or_false, bigI h.root0, bigI h.e00, bigI h.e10, bigI h.m00, bigI h.m10, bigI h.a00, bigI h.a10]
theorem zZero (w : World) : Calls Try.prog 32 #[] w fun e w' => e = .returned (.agg #[.int .u64 0, .int .u64 1]) ∧ Below w.heap.size w w' := by
  go_enter Try.func32, Try.ntmps32
  go_wp2_with fail
  refine bodyPost_ret (v := edV 0 1) (by simp [results, Try.results32, go_sem]) rfl ⟨rfl, ?_⟩
  repeat (first | exact Below.refl _ _ | assumption | apply bDrewN | apply bDrew | apply bAlloc | refine bSet ?_ (by omega) | refine bThen ?_ (by assumption) (by simp <;> omega))
theorem zero_yes {x y : Int} (h : zeroB x y = true) : x = 0 ∧ y = 1 := by unfold zeroB at h; simpa using h
/-- What each round asks. -/
def roundP (e m a x y : Int) (l : Nat) : Prop := ¬ 288230376287764481 ≤ e ∧ ¬ 288230376287764481 ≤ m ∧ ¬ 288230376287764481 ≤ a ∧ c3 x y l = true
def MayP (t : TxD) : Nat → Prop
  | 0 => True
  | 1 => roundP t.e0 t.m0 t.a0 t.n0x t.n0y t.l0
  | _ => roundP t.e0 t.m0 t.a0 t.n0x t.n0y t.l0 ∧ roundP t.e1 t.m1 t.a1 t.n1x t.n1y t.l1
theorem may_c1 {t : TxD} (h : c1 t = false) : mayB t = false := by unfold mayB; rw [h]; rfl
theorem may_c2 {t : TxD} (h : c2 t = false) : mayB t = false := by unfold mayB; simp [h]
theorem may_c30 {t : TxD} (h : c3 t.n0x t.n0y t.l0 = false) : mayB t = false := by unfold mayB; simp [h]
theorem may_c31 {t : TxD} (h : c3 t.n1x t.n1y t.l1 = false) : mayB t = false := by unfold mayB; simp [h]
theorem may_c4 {t : TxD} (h : c4 t = false) : mayB t = false := by unfold mayB; simp [h]
theorem may_all {t : TxD} (hk : TxOk t) (h1 : ¬ 288230376287764481 ≤ t.root) (h2 : ¬ 4294967296 ≤ t.inn) (h3 : ¬ 4294967296 ≤ t.out) (h4 : ¬ 1125899906842624 < t.seq) (hP : MayP t 2) (h5 : c2 t = true) (h6 : c4 t = true) : mayB t = !c5 t := by
  obtain ⟨⟨a1, a2, a3, a4⟩, b1, b2, b3, b4⟩ := hP
  have hc : c1 t = true := by
    rw [c1_eq t hk]
    simp only [decide_eq_false h1, decide_eq_false a1, decide_eq_false a2, decide_eq_false a3, decide_eq_false b1, decide_eq_false b2, decide_eq_false b3, decide_eq_true (show t.inn < 4294967296 by omega), decide_eq_true (show t.out < 4294967296 by omega), decide_eq_true (show t.seq ≤ 1125899906842624 by omega)]
    rfl
  unfold mayB
  rw [hc, h5, a4, b4, h6]
  rfl
def MayS (b : Bool) (w : World) (e : Ending) (w' : World) : Prop := e = .returned (.bool b) ∧ Below w.heap.size w w'
set_option maxRecDepth 100000 in
set_option maxHeartbeats 100000000 in
theorem r19May (t : TxD) (h : TxOk t) (w : World) : Calls Try.prog 12 #[txV t] w (MayS (mayB t) w) := by
  have hok := Lib.hid h
  have hc1 := Lib.hid (c1_eq t h)
  clear h
  go_enter Try.func12, Try.ntmps12
  go_upto_region 1 with fail
  have H0 := (HR.refl w).new (txC t) 37
  have hlt1 := H0.lt (b := w.heap.size) (cs := (txC t)) (t := 37) (by simp)
  generalize w.alloc (.cells (txC t) 37) = w2 at H0 hlt1 ⊢
  generalize hb1 : w.heap.size = b1 at H0 hlt1 ⊢
  have hbs : Hid (w.heap.size = b1 ∧ b1 < w2.heap.size) := Lib.hid ⟨hb1, hlt1⟩
  have H1 : Hid (HR w w2 [(b1, (txC t), 37)]) := Lib.hid H0
  clear hb1 H0 hlt1
  have k_root := HR.cell H1.out (b := b1) (cs := (txC t)) (t := 37) (by simp) 0 rfl
  have k_inn := HR.cell H1.out (b := b1) (cs := (txC t)) (t := 37) (by simp) 1 rfl
  have k_out := HR.cell H1.out (b := b1) (cs := (txC t)) (t := 37) (by simp) 2 rfl
  have k_seq := HR.cell H1.out (b := b1) (cs := (txC t)) (t := 37) (by simp) 7 rfl
  by_cases p0 : 288230376287764481 ≤ t.root
  · have d0 : decide (288230376287764481 ≤ t.root) = true := decide_eq_true p0
    have hM : Hid (mayB t = false) := Lib.hid (may_c1 (by rw [hc1.out]; simp [p0]))
    go_wp2_with fail
    go_ret
    exact ⟨by rw [hM.out]; rfl, H1.out.2⟩
  · have d0 : decide (288230376287764481 ≤ t.root) = false := decide_eq_false p0
    by_cases p1 : 4294967296 ≤ t.inn
    · have d1 : decide (4294967296 ≤ t.inn) = true := decide_eq_true p1
      have hM : Hid (mayB t = false) := Lib.hid (may_c1 (by rw [hc1.out]; simp [show ¬ t.inn < 4294967296 by omega]))
      go_wp2_with fail
      go_ret
      exact ⟨by rw [hM.out]; rfl, H1.out.2⟩
    · have d1 : decide (4294967296 ≤ t.inn) = false := decide_eq_false p1
      by_cases p2 : 4294967296 ≤ t.out
      · have d2 : decide (4294967296 ≤ t.out) = true := decide_eq_true p2
        have hM : Hid (mayB t = false) := Lib.hid (may_c1 (by rw [hc1.out]; simp [show ¬ t.out < 4294967296 by omega]))
        go_wp2_with fail
        go_ret
        exact ⟨by rw [hM.out]; rfl, H1.out.2⟩
      · have d2 : decide (4294967296 ≤ t.out) = false := decide_eq_false p2
        by_cases p3 : 1125899906842624 < t.seq
        · have d3 : decide (1125899906842624 < t.seq) = true := decide_eq_true p3
          have hM : Hid (mayB t = false) := Lib.hid (may_c1 (by rw [hc1.out]; simp [show ¬ t.seq ≤ 1125899906842624 by omega]))
          go_wp2_with fail
          go_ret
          exact ⟨by rw [hM.out]; rfl, H1.out.2⟩
        · have d3 : decide (1125899906842624 < t.seq) = false := decide_eq_false p3
          have P1 := Lib.hid (And.intro p0 (And.intro p1 (And.intro p2 p3)))
          clear p0 p1 p2 p3
          go_upto_region 4 with fail
          clear k_root k_inn k_out k_seq
          clear d0 d1 d2 d3
          go_loopw [3] (fun q wr => ∃ j : Nat, j ≤ 2 ∧ q = .int .i64 (j : Int) ∧ Hid (MayP t j) ∧ Hid (HR w wr [(b1, (txC t), 37)])) (fun q _ => (2 - intOf q).toNat)
          case atStart => exact ⟨0, by omega, rfl, Lib.hid trivial, H1⟩
          case round =>
            clear H1
            obtain ⟨j, hj, rfl, hP, H1⟩ := hrel
            rcases (by omega : j = 0 ∨ j = 1 ∨ j = 2) with rfl | rfl | rfl
            · have k_e0 := HR.cell H1.out (b := b1) (cs := (txC t)) (t := 37) (by simp) 8 rfl
              have k_m0 := HR.cell H1.out (b := b1) (cs := (txC t)) (t := 37) (by simp) 10 rfl
              have k_a0 := HR.cell H1.out (b := b1) (cs := (txC t)) (t := 37) (by simp) 18 rfl
              have k_n0x := HR.cell H1.out (b := b1) (cs := (txC t)) (t := 37) (by simp) 12 rfl
              have k_n0y := HR.cell H1.out (b := b1) (cs := (txC t)) (t := 37) (by simp) 13 rfl
              have k_S0 := HR.cell H1.out (b := b1) (cs := (txC t)) (t := 37) (by simp) 14 rfl
              by_cases p0 : 288230376287764481 ≤ t.e0
              · have d0 : decide (288230376287764481 ≤ t.e0) = true := decide_eq_true p0
                have hM : Hid (mayB t = false) := Lib.hid (may_c1 (by rw [hc1.out]; simp [p0]))
                go_wp2_with fail
                go_ret
                exact ⟨by rw [hM.out]; rfl, H1.out.2⟩
              · have d0 : decide (288230376287764481 ≤ t.e0) = false := decide_eq_false p0
                by_cases p1 : 288230376287764481 ≤ t.m0
                · have d1 : decide (288230376287764481 ≤ t.m0) = true := decide_eq_true p1
                  have hM : Hid (mayB t = false) := Lib.hid (may_c1 (by rw [hc1.out]; simp [p1]))
                  go_wp2_with fail
                  go_ret
                  exact ⟨by rw [hM.out]; rfl, H1.out.2⟩
                · have d1 : decide (288230376287764481 ≤ t.m0) = false := decide_eq_false p1
                  by_cases p2 : 288230376287764481 ≤ t.a0
                  · have d2 : decide (288230376287764481 ≤ t.a0) = true := decide_eq_true p2
                    have hM : Hid (mayB t = false) := Lib.hid (may_c1 (by rw [hc1.out]; simp [p2]))
                    go_wp2_with fail
                    go_ret
                    exact ⟨by rw [hM.out]; rfl, H1.out.2⟩
                  · have d2 : decide (288230376287764481 ≤ t.a0) = false := decide_eq_false p2
                    have Q := Lib.hid (And.intro p0 (And.intro p1 p2))
                    clear p0 p1 p2
                    go_upto_region 9 with fail
                    have H6a := H1.out.new #[.int .u64 t.n0x, .int .u64 t.n0y, .slice t.s0 t.l0 t.c0] 28
                    clear k_e0 k_m0 k_a0 k_n0x k_n0y k_S0
                    clear d0 d1 d2
                    generalize wr.alloc (.cells #[.int .u64 t.n0x, .int .u64 t.n0y, .slice t.s0 t.l0 t.c0] 28) = w6 at H6a ⊢
                    generalize wr.heap.size = b6 at H6a ⊢
                    have H6 := Lib.hid H6a
                    clear H6a
                    have cA := Lib.hid (fun W => r7In t.n0x t.n0y hok.out.n0x0 hok.out.n0y0 W)
                    cases q1 : inN (t.n0x.toNat, t.n0y.toNat)
                    · rw [q1] at cA
                      have hM : Hid (mayB t = false) := Lib.hid (may_c30 (by unfold c3; simp [q1]))
                      replace q1 := Lib.hid q1
                      refine wp_region_noPanic ?_
                      refine wp_region_held_drew (S := fun wq => wq.cell? ⟨b6, 0, none⟩ = some (.int .u64 t.n0x) ∧ wq.cell? ⟨b6, 1, none⟩ = some (.int .u64 t.n0y) ∧ wq.cell? ⟨b6, 2, none⟩ = some (.slice t.s0 t.l0 t.c0) ∧ HR w wq [(b6, #[.int .u64 t.n0x, .int .u64 t.n0y, .slice t.s0 t.l0 t.c0], 28), (b1, (txC t), 37)]) (by kernel_rfl) ?_ (fun hHeld => ?_)
                      · have hq0 := HR.drew H6.out
                        exact ⟨HR.cell hq0 (b := b6) (cs := #[.int .u64 t.n0x, .int .u64 t.n0y, .slice t.s0 t.l0 t.c0]) (t := 28) (by simp) 0 rfl, HR.cell hq0 (b := b6) (cs := #[.int .u64 t.n0x, .int .u64 t.n0y, .slice t.s0 t.l0 t.c0]) (t := 28) (by simp) 1 rfl, HR.cell hq0 (b := b6) (cs := #[.int .u64 t.n0x, .int .u64 t.n0y, .slice t.s0 t.l0 t.c0]) (t := 28) (by simp) 2 rfl, hq0⟩
                      refine tk 0 hHeld ?_; refine tk 1 hHeld ?_
                      refine stepH 2 (by kernel_rfl) rfl (by rfl) (fun K hK => ?_)
                      go_simp
                      refine (cA.out _).mono ?_
                      rintro e wc1 ⟨rfl, hbc1⟩
                      have hrc1 := HR.next hHeld.2.2.2 hbc1
                      refine hK.out _ _ ?_ (fun hHeld => ?_)
                      · exact ⟨HR.cell hrc1 (b := b6) (cs := #[.int .u64 t.n0x, .int .u64 t.n0y, .slice t.s0 t.l0 t.c0]) (t := 28) (by simp) 0 rfl, HR.cell hrc1 (b := b6) (cs := #[.int .u64 t.n0x, .int .u64 t.n0y, .slice t.s0 t.l0 t.c0]) (t := 28) (by simp) 1 rfl, HR.cell hrc1 (b := b6) (cs := #[.int .u64 t.n0x, .int .u64 t.n0y, .slice t.s0 t.l0 t.c0]) (t := 28) (by simp) 2 rfl, hrc1⟩
                      clear hK K
                      try simp only [Act.put, List.setIfInBounds_toArray, List.set_cons_zero, List.set_cons_succ]
                      refine tk 3 hHeld ?_; refine tk 4 hHeld ?_; refine sk 5 hHeld ?_; refine sk 6 hHeld ?_; refine sk 7 hHeld ?_; refine sk 8 hHeld ?_; refine tk 9 hHeld ?_; refine tk 10 hHeld ?_; refine sk 11 hHeld ?_; refine sk 12 hHeld ?_; refine sk 13 hHeld ?_; refine sk 14 hHeld ?_; refine tk 15 hHeld ?_
                      refine wpAnyH_done (by kernel_rfl) (NoPanic.normal ?_) _
                      have hL := Lib.hid hHeld.2.2.2
                      clear hHeld
                      go_wp2_with fail
                      go_ret
                      exact ⟨by rw [hM.out]; rfl, hL.out.2⟩
                    · rw [q1] at cA
                      cases q2 : zeroB t.n0x t.n0y
                      · by_cases q3 : t.l0 = 32
                        · have hl : ((t.l0 : Int) != 32) = false := by simp only [bne_eq_false_iff_eq]; omega
                          have hN : Hid (roundP t.e0 t.m0 t.a0 t.n0x t.n0y t.l0) := Lib.hid ⟨Q.out.1, Q.out.2.1, Q.out.2.2, by unfold c3; simp [q1, q2, q3]⟩
                          have hN2 : Hid (MayP t 1) := Lib.hid hN.out
                          replace q1 := Lib.hid q1
                          replace q3 := Lib.hid q3
                          refine wp_region_noPanic ?_
                          refine wp_region_held_drew (S := fun wq => wq.cell? ⟨b6, 0, none⟩ = some (.int .u64 t.n0x) ∧ wq.cell? ⟨b6, 1, none⟩ = some (.int .u64 t.n0y) ∧ wq.cell? ⟨b6, 2, none⟩ = some (.slice t.s0 t.l0 t.c0) ∧ HR w wq [(b6, #[.int .u64 t.n0x, .int .u64 t.n0y, .slice t.s0 t.l0 t.c0], 28), (b1, (txC t), 37)]) (by kernel_rfl) ?_ (fun hHeld => ?_)
                          · have hq0 := HR.drew H6.out
                            exact ⟨HR.cell hq0 (b := b6) (cs := #[.int .u64 t.n0x, .int .u64 t.n0y, .slice t.s0 t.l0 t.c0]) (t := 28) (by simp) 0 rfl, HR.cell hq0 (b := b6) (cs := #[.int .u64 t.n0x, .int .u64 t.n0y, .slice t.s0 t.l0 t.c0]) (t := 28) (by simp) 1 rfl, HR.cell hq0 (b := b6) (cs := #[.int .u64 t.n0x, .int .u64 t.n0y, .slice t.s0 t.l0 t.c0]) (t := 28) (by simp) 2 rfl, hq0⟩
                          refine tk 0 hHeld ?_; refine tk 1 hHeld ?_
                          refine stepH 2 (by kernel_rfl) rfl (by rfl) (fun K hK => ?_)
                          go_simp
                          refine (cA.out _).mono ?_
                          rintro e wc1 ⟨rfl, hbc1⟩
                          have hrc1 := HR.next hHeld.2.2.2 hbc1
                          refine hK.out _ _ ?_ (fun hHeld => ?_)
                          · exact ⟨HR.cell hrc1 (b := b6) (cs := #[.int .u64 t.n0x, .int .u64 t.n0y, .slice t.s0 t.l0 t.c0]) (t := 28) (by simp) 0 rfl, HR.cell hrc1 (b := b6) (cs := #[.int .u64 t.n0x, .int .u64 t.n0y, .slice t.s0 t.l0 t.c0]) (t := 28) (by simp) 1 rfl, HR.cell hrc1 (b := b6) (cs := #[.int .u64 t.n0x, .int .u64 t.n0y, .slice t.s0 t.l0 t.c0]) (t := 28) (by simp) 2 rfl, hrc1⟩
                          clear hK K
                          try simp only [Act.put, List.setIfInBounds_toArray, List.set_cons_zero, List.set_cons_succ]
                          refine tk 3 hHeld ?_; refine tk 4 hHeld ?_; refine tk 5 hHeld ?_; refine tk 6 hHeld ?_
                          refine stepH 7 (by kernel_rfl) rfl (by rfl) (fun K hK => ?_)
                          go_simp
                          refine (zZero _).mono ?_
                          rintro e wc2 ⟨rfl, hbc2⟩
                          have hrc2 := HR.next hHeld.2.2.2 hbc2
                          refine hK.out _ _ ?_ (fun hHeld => ?_)
                          · exact ⟨HR.cell hrc2 (b := b6) (cs := #[.int .u64 t.n0x, .int .u64 t.n0y, .slice t.s0 t.l0 t.c0]) (t := 28) (by simp) 0 rfl, HR.cell hrc2 (b := b6) (cs := #[.int .u64 t.n0x, .int .u64 t.n0y, .slice t.s0 t.l0 t.c0]) (t := 28) (by simp) 1 rfl, HR.cell hrc2 (b := b6) (cs := #[.int .u64 t.n0x, .int .u64 t.n0y, .slice t.s0 t.l0 t.c0]) (t := 28) (by simp) 2 rfl, hrc2⟩
                          clear hK K
                          try simp only [Act.put, List.setIfInBounds_toArray, List.set_cons_zero, List.set_cons_succ]
                          refine takeH 8 (fun _ _ _ _ _ h => h) (by kernel_rfl) hHeld rfl (by kernel_rfl) (by rfl) (v := .bool false) ?_ ?_
                          · intro wz hz
                            (try dsimp only at hz)
                            go_simp
                            first | exact zeroB_no q2 | exact (zero_if _ _ _).trans (by rw [q2])
                          try simp only [Act.put, List.setIfInBounds_toArray, List.set_cons_zero, List.set_cons_succ]
                          refine tk 9 hHeld ?_; refine tk 10 hHeld ?_; refine tk 11 hHeld ?_; refine tk 12 hHeld ?_; refine tk 13 hHeld ?_; refine tk 14 hHeld ?_; refine tk 15 hHeld ?_
                          refine wpAnyH_done (by kernel_rfl) (NoPanic.normal ?_) _
                          have hL := Lib.hid hHeld.2.2.2
                          clear hHeld
                          have H7 := Lib.hid (HR.sub (qs := [(b1, (txC t), 37)]) hL.out (by simp))
                          clear hL H6 H1
                          go_wp2_with fail
                          go_roundw
                          case rel => exact ⟨1, by omega, rfl, hN2, H7⟩
                          case measure => simp [intOf]
                        · have hl : ((t.l0 : Int) != 32) = true := by simp only [bne_iff_ne]; omega
                          have hM : Hid (mayB t = false) := Lib.hid (may_c30 (by unfold c3; simp [q1, q2, q3]))
                          replace q3 := Lib.hid q3
                          replace q1 := Lib.hid q1
                          refine wp_region_noPanic ?_
                          refine wp_region_held_drew (S := fun wq => wq.cell? ⟨b6, 0, none⟩ = some (.int .u64 t.n0x) ∧ wq.cell? ⟨b6, 1, none⟩ = some (.int .u64 t.n0y) ∧ wq.cell? ⟨b6, 2, none⟩ = some (.slice t.s0 t.l0 t.c0) ∧ HR w wq [(b6, #[.int .u64 t.n0x, .int .u64 t.n0y, .slice t.s0 t.l0 t.c0], 28), (b1, (txC t), 37)]) (by kernel_rfl) ?_ (fun hHeld => ?_)
                          · have hq0 := HR.drew H6.out
                            exact ⟨HR.cell hq0 (b := b6) (cs := #[.int .u64 t.n0x, .int .u64 t.n0y, .slice t.s0 t.l0 t.c0]) (t := 28) (by simp) 0 rfl, HR.cell hq0 (b := b6) (cs := #[.int .u64 t.n0x, .int .u64 t.n0y, .slice t.s0 t.l0 t.c0]) (t := 28) (by simp) 1 rfl, HR.cell hq0 (b := b6) (cs := #[.int .u64 t.n0x, .int .u64 t.n0y, .slice t.s0 t.l0 t.c0]) (t := 28) (by simp) 2 rfl, hq0⟩
                          refine tk 0 hHeld ?_; refine tk 1 hHeld ?_
                          refine stepH 2 (by kernel_rfl) rfl (by rfl) (fun K hK => ?_)
                          go_simp
                          refine (cA.out _).mono ?_
                          rintro e wc1 ⟨rfl, hbc1⟩
                          have hrc1 := HR.next hHeld.2.2.2 hbc1
                          refine hK.out _ _ ?_ (fun hHeld => ?_)
                          · exact ⟨HR.cell hrc1 (b := b6) (cs := #[.int .u64 t.n0x, .int .u64 t.n0y, .slice t.s0 t.l0 t.c0]) (t := 28) (by simp) 0 rfl, HR.cell hrc1 (b := b6) (cs := #[.int .u64 t.n0x, .int .u64 t.n0y, .slice t.s0 t.l0 t.c0]) (t := 28) (by simp) 1 rfl, HR.cell hrc1 (b := b6) (cs := #[.int .u64 t.n0x, .int .u64 t.n0y, .slice t.s0 t.l0 t.c0]) (t := 28) (by simp) 2 rfl, hrc1⟩
                          clear hK K
                          try simp only [Act.put, List.setIfInBounds_toArray, List.set_cons_zero, List.set_cons_succ]
                          refine tk 3 hHeld ?_; refine tk 4 hHeld ?_; refine tk 5 hHeld ?_; refine tk 6 hHeld ?_
                          refine stepH 7 (by kernel_rfl) rfl (by rfl) (fun K hK => ?_)
                          go_simp
                          refine (zZero _).mono ?_
                          rintro e wc2 ⟨rfl, hbc2⟩
                          have hrc2 := HR.next hHeld.2.2.2 hbc2
                          refine hK.out _ _ ?_ (fun hHeld => ?_)
                          · exact ⟨HR.cell hrc2 (b := b6) (cs := #[.int .u64 t.n0x, .int .u64 t.n0y, .slice t.s0 t.l0 t.c0]) (t := 28) (by simp) 0 rfl, HR.cell hrc2 (b := b6) (cs := #[.int .u64 t.n0x, .int .u64 t.n0y, .slice t.s0 t.l0 t.c0]) (t := 28) (by simp) 1 rfl, HR.cell hrc2 (b := b6) (cs := #[.int .u64 t.n0x, .int .u64 t.n0y, .slice t.s0 t.l0 t.c0]) (t := 28) (by simp) 2 rfl, hrc2⟩
                          clear hK K
                          try simp only [Act.put, List.setIfInBounds_toArray, List.set_cons_zero, List.set_cons_succ]
                          refine takeH 8 (fun _ _ _ _ _ h => h) (by kernel_rfl) hHeld rfl (by kernel_rfl) (by rfl) (v := .bool false) ?_ ?_
                          · intro wz hz
                            (try dsimp only at hz)
                            go_simp
                            first | exact zeroB_no q2 | exact (zero_if _ _ _).trans (by rw [q2])
                          try simp only [Act.put, List.setIfInBounds_toArray, List.set_cons_zero, List.set_cons_succ]
                          refine tk 9 hHeld ?_; refine tk 10 hHeld ?_; refine tk 11 hHeld ?_; refine tk 12 hHeld ?_; refine tk 13 hHeld ?_; refine tk 14 hHeld ?_; refine tk 15 hHeld ?_
                          refine wpAnyH_done (by kernel_rfl) (NoPanic.normal ?_) _
                          have hL := Lib.hid hHeld.2.2.2
                          clear hHeld
                          go_wp2_with fail
                          go_ret
                          exact ⟨by rw [hM.out]; rfl, hL.out.2⟩
                      · have hM : Hid (mayB t = false) := Lib.hid (may_c30 (by unfold c3; simp [q1, q2]))
                        replace q1 := Lib.hid q1
                        refine wp_region_noPanic ?_
                        refine wp_region_held_drew (S := fun wq => wq.cell? ⟨b6, 0, none⟩ = some (.int .u64 t.n0x) ∧ wq.cell? ⟨b6, 1, none⟩ = some (.int .u64 t.n0y) ∧ wq.cell? ⟨b6, 2, none⟩ = some (.slice t.s0 t.l0 t.c0) ∧ HR w wq [(b6, #[.int .u64 t.n0x, .int .u64 t.n0y, .slice t.s0 t.l0 t.c0], 28), (b1, (txC t), 37)]) (by kernel_rfl) ?_ (fun hHeld => ?_)
                        · have hq0 := HR.drew H6.out
                          exact ⟨HR.cell hq0 (b := b6) (cs := #[.int .u64 t.n0x, .int .u64 t.n0y, .slice t.s0 t.l0 t.c0]) (t := 28) (by simp) 0 rfl, HR.cell hq0 (b := b6) (cs := #[.int .u64 t.n0x, .int .u64 t.n0y, .slice t.s0 t.l0 t.c0]) (t := 28) (by simp) 1 rfl, HR.cell hq0 (b := b6) (cs := #[.int .u64 t.n0x, .int .u64 t.n0y, .slice t.s0 t.l0 t.c0]) (t := 28) (by simp) 2 rfl, hq0⟩
                        refine tk 0 hHeld ?_; refine tk 1 hHeld ?_
                        refine stepH 2 (by kernel_rfl) rfl (by rfl) (fun K hK => ?_)
                        go_simp
                        refine (cA.out _).mono ?_
                        rintro e wc1 ⟨rfl, hbc1⟩
                        have hrc1 := HR.next hHeld.2.2.2 hbc1
                        refine hK.out _ _ ?_ (fun hHeld => ?_)
                        · exact ⟨HR.cell hrc1 (b := b6) (cs := #[.int .u64 t.n0x, .int .u64 t.n0y, .slice t.s0 t.l0 t.c0]) (t := 28) (by simp) 0 rfl, HR.cell hrc1 (b := b6) (cs := #[.int .u64 t.n0x, .int .u64 t.n0y, .slice t.s0 t.l0 t.c0]) (t := 28) (by simp) 1 rfl, HR.cell hrc1 (b := b6) (cs := #[.int .u64 t.n0x, .int .u64 t.n0y, .slice t.s0 t.l0 t.c0]) (t := 28) (by simp) 2 rfl, hrc1⟩
                        clear hK K
                        try simp only [Act.put, List.setIfInBounds_toArray, List.set_cons_zero, List.set_cons_succ]
                        refine tk 3 hHeld ?_; refine tk 4 hHeld ?_; refine tk 5 hHeld ?_; refine tk 6 hHeld ?_
                        refine stepH 7 (by kernel_rfl) rfl (by rfl) (fun K hK => ?_)
                        go_simp
                        refine (zZero _).mono ?_
                        rintro e wc2 ⟨rfl, hbc2⟩
                        have hrc2 := HR.next hHeld.2.2.2 hbc2
                        refine hK.out _ _ ?_ (fun hHeld => ?_)
                        · exact ⟨HR.cell hrc2 (b := b6) (cs := #[.int .u64 t.n0x, .int .u64 t.n0y, .slice t.s0 t.l0 t.c0]) (t := 28) (by simp) 0 rfl, HR.cell hrc2 (b := b6) (cs := #[.int .u64 t.n0x, .int .u64 t.n0y, .slice t.s0 t.l0 t.c0]) (t := 28) (by simp) 1 rfl, HR.cell hrc2 (b := b6) (cs := #[.int .u64 t.n0x, .int .u64 t.n0y, .slice t.s0 t.l0 t.c0]) (t := 28) (by simp) 2 rfl, hrc2⟩
                        clear hK K
                        try simp only [Act.put, List.setIfInBounds_toArray, List.set_cons_zero, List.set_cons_succ]
                        refine takeH 8 (fun _ _ _ _ _ h => h) (by kernel_rfl) hHeld rfl (by kernel_rfl) (by rfl) (v := .bool true) ?_ ?_
                        · intro wz hz
                          (try dsimp only at hz)
                          go_simp
                          exact (zero_if _ _ _).trans (by rw [q2])
                        try simp only [Act.put, List.setIfInBounds_toArray, List.set_cons_zero, List.set_cons_succ]
                        refine tk 9 hHeld ?_; refine tk 10 hHeld ?_; refine sk 11 hHeld ?_; refine sk 12 hHeld ?_; refine sk 13 hHeld ?_; refine sk 14 hHeld ?_; refine tk 15 hHeld ?_
                        refine wpAnyH_done (by kernel_rfl) (NoPanic.normal ?_) _
                        have hL := Lib.hid hHeld.2.2.2
                        clear hHeld
                        go_wp2_with fail
                        go_ret
                        exact ⟨by rw [hM.out]; rfl, hL.out.2⟩

            · have k_e1 := HR.cell H1.out (b := b1) (cs := (txC t)) (t := 37) (by simp) 9 rfl
              have k_m1 := HR.cell H1.out (b := b1) (cs := (txC t)) (t := 37) (by simp) 11 rfl
              have k_a1 := HR.cell H1.out (b := b1) (cs := (txC t)) (t := 37) (by simp) 19 rfl
              have k_n1x := HR.cell H1.out (b := b1) (cs := (txC t)) (t := 37) (by simp) 15 rfl
              have k_n1y := HR.cell H1.out (b := b1) (cs := (txC t)) (t := 37) (by simp) 16 rfl
              have k_S1 := HR.cell H1.out (b := b1) (cs := (txC t)) (t := 37) (by simp) 17 rfl
              by_cases p0 : 288230376287764481 ≤ t.e1
              · have d0 : decide (288230376287764481 ≤ t.e1) = true := decide_eq_true p0
                have hM : Hid (mayB t = false) := Lib.hid (may_c1 (by rw [hc1.out]; simp [p0]))
                go_wp2_with fail
                go_ret
                exact ⟨by rw [hM.out]; rfl, H1.out.2⟩
              · have d0 : decide (288230376287764481 ≤ t.e1) = false := decide_eq_false p0
                by_cases p1 : 288230376287764481 ≤ t.m1
                · have d1 : decide (288230376287764481 ≤ t.m1) = true := decide_eq_true p1
                  have hM : Hid (mayB t = false) := Lib.hid (may_c1 (by rw [hc1.out]; simp [p1]))
                  go_wp2_with fail
                  go_ret
                  exact ⟨by rw [hM.out]; rfl, H1.out.2⟩
                · have d1 : decide (288230376287764481 ≤ t.m1) = false := decide_eq_false p1
                  by_cases p2 : 288230376287764481 ≤ t.a1
                  · have d2 : decide (288230376287764481 ≤ t.a1) = true := decide_eq_true p2
                    have hM : Hid (mayB t = false) := Lib.hid (may_c1 (by rw [hc1.out]; simp [p2]))
                    go_wp2_with fail
                    go_ret
                    exact ⟨by rw [hM.out]; rfl, H1.out.2⟩
                  · have d2 : decide (288230376287764481 ≤ t.a1) = false := decide_eq_false p2
                    have Q := Lib.hid (And.intro p0 (And.intro p1 p2))
                    clear p0 p1 p2
                    go_upto_region 9 with fail
                    have H6a := H1.out.new #[.int .u64 t.n1x, .int .u64 t.n1y, .slice t.s1 t.l1 t.c1] 28
                    clear k_e1 k_m1 k_a1 k_n1x k_n1y k_S1
                    clear d0 d1 d2
                    generalize wr.alloc (.cells #[.int .u64 t.n1x, .int .u64 t.n1y, .slice t.s1 t.l1 t.c1] 28) = w6 at H6a ⊢
                    generalize wr.heap.size = b6 at H6a ⊢
                    have H6 := Lib.hid H6a
                    clear H6a
                    have cA := Lib.hid (fun W => r7In t.n1x t.n1y hok.out.n1x0 hok.out.n1y0 W)
                    cases q1 : inN (t.n1x.toNat, t.n1y.toNat)
                    · rw [q1] at cA
                      have hM : Hid (mayB t = false) := Lib.hid (may_c31 (by unfold c3; simp [q1]))
                      replace q1 := Lib.hid q1
                      refine wp_region_noPanic ?_
                      refine wp_region_held_drew (S := fun wq => wq.cell? ⟨b6, 0, none⟩ = some (.int .u64 t.n1x) ∧ wq.cell? ⟨b6, 1, none⟩ = some (.int .u64 t.n1y) ∧ wq.cell? ⟨b6, 2, none⟩ = some (.slice t.s1 t.l1 t.c1) ∧ HR w wq [(b6, #[.int .u64 t.n1x, .int .u64 t.n1y, .slice t.s1 t.l1 t.c1], 28), (b1, (txC t), 37)]) (by kernel_rfl) ?_ (fun hHeld => ?_)
                      · have hq0 := HR.drew H6.out
                        exact ⟨HR.cell hq0 (b := b6) (cs := #[.int .u64 t.n1x, .int .u64 t.n1y, .slice t.s1 t.l1 t.c1]) (t := 28) (by simp) 0 rfl, HR.cell hq0 (b := b6) (cs := #[.int .u64 t.n1x, .int .u64 t.n1y, .slice t.s1 t.l1 t.c1]) (t := 28) (by simp) 1 rfl, HR.cell hq0 (b := b6) (cs := #[.int .u64 t.n1x, .int .u64 t.n1y, .slice t.s1 t.l1 t.c1]) (t := 28) (by simp) 2 rfl, hq0⟩
                      refine tk 0 hHeld ?_; refine tk 1 hHeld ?_
                      refine stepH 2 (by kernel_rfl) rfl (by rfl) (fun K hK => ?_)
                      go_simp
                      refine (cA.out _).mono ?_
                      rintro e wc1 ⟨rfl, hbc1⟩
                      have hrc1 := HR.next hHeld.2.2.2 hbc1
                      refine hK.out _ _ ?_ (fun hHeld => ?_)
                      · exact ⟨HR.cell hrc1 (b := b6) (cs := #[.int .u64 t.n1x, .int .u64 t.n1y, .slice t.s1 t.l1 t.c1]) (t := 28) (by simp) 0 rfl, HR.cell hrc1 (b := b6) (cs := #[.int .u64 t.n1x, .int .u64 t.n1y, .slice t.s1 t.l1 t.c1]) (t := 28) (by simp) 1 rfl, HR.cell hrc1 (b := b6) (cs := #[.int .u64 t.n1x, .int .u64 t.n1y, .slice t.s1 t.l1 t.c1]) (t := 28) (by simp) 2 rfl, hrc1⟩
                      clear hK K
                      try simp only [Act.put, List.setIfInBounds_toArray, List.set_cons_zero, List.set_cons_succ]
                      refine tk 3 hHeld ?_; refine tk 4 hHeld ?_; refine sk 5 hHeld ?_; refine sk 6 hHeld ?_; refine sk 7 hHeld ?_; refine sk 8 hHeld ?_; refine tk 9 hHeld ?_; refine tk 10 hHeld ?_; refine sk 11 hHeld ?_; refine sk 12 hHeld ?_; refine sk 13 hHeld ?_; refine sk 14 hHeld ?_; refine tk 15 hHeld ?_
                      refine wpAnyH_done (by kernel_rfl) (NoPanic.normal ?_) _
                      have hL := Lib.hid hHeld.2.2.2
                      clear hHeld
                      go_wp2_with fail
                      go_ret
                      exact ⟨by rw [hM.out]; rfl, hL.out.2⟩
                    · rw [q1] at cA
                      cases q2 : zeroB t.n1x t.n1y
                      · by_cases q3 : t.l1 = 32
                        · have hl : ((t.l1 : Int) != 32) = false := by simp only [bne_eq_false_iff_eq]; omega
                          have hN : Hid (roundP t.e1 t.m1 t.a1 t.n1x t.n1y t.l1) := Lib.hid ⟨Q.out.1, Q.out.2.1, Q.out.2.2, by unfold c3; simp [q1, q2, q3]⟩
                          have hN2 : Hid (MayP t 2) := Lib.hid ⟨hP.out, hN.out⟩
                          replace q1 := Lib.hid q1
                          replace q3 := Lib.hid q3
                          refine wp_region_noPanic ?_
                          refine wp_region_held_drew (S := fun wq => wq.cell? ⟨b6, 0, none⟩ = some (.int .u64 t.n1x) ∧ wq.cell? ⟨b6, 1, none⟩ = some (.int .u64 t.n1y) ∧ wq.cell? ⟨b6, 2, none⟩ = some (.slice t.s1 t.l1 t.c1) ∧ HR w wq [(b6, #[.int .u64 t.n1x, .int .u64 t.n1y, .slice t.s1 t.l1 t.c1], 28), (b1, (txC t), 37)]) (by kernel_rfl) ?_ (fun hHeld => ?_)
                          · have hq0 := HR.drew H6.out
                            exact ⟨HR.cell hq0 (b := b6) (cs := #[.int .u64 t.n1x, .int .u64 t.n1y, .slice t.s1 t.l1 t.c1]) (t := 28) (by simp) 0 rfl, HR.cell hq0 (b := b6) (cs := #[.int .u64 t.n1x, .int .u64 t.n1y, .slice t.s1 t.l1 t.c1]) (t := 28) (by simp) 1 rfl, HR.cell hq0 (b := b6) (cs := #[.int .u64 t.n1x, .int .u64 t.n1y, .slice t.s1 t.l1 t.c1]) (t := 28) (by simp) 2 rfl, hq0⟩
                          refine tk 0 hHeld ?_; refine tk 1 hHeld ?_
                          refine stepH 2 (by kernel_rfl) rfl (by rfl) (fun K hK => ?_)
                          go_simp
                          refine (cA.out _).mono ?_
                          rintro e wc1 ⟨rfl, hbc1⟩
                          have hrc1 := HR.next hHeld.2.2.2 hbc1
                          refine hK.out _ _ ?_ (fun hHeld => ?_)
                          · exact ⟨HR.cell hrc1 (b := b6) (cs := #[.int .u64 t.n1x, .int .u64 t.n1y, .slice t.s1 t.l1 t.c1]) (t := 28) (by simp) 0 rfl, HR.cell hrc1 (b := b6) (cs := #[.int .u64 t.n1x, .int .u64 t.n1y, .slice t.s1 t.l1 t.c1]) (t := 28) (by simp) 1 rfl, HR.cell hrc1 (b := b6) (cs := #[.int .u64 t.n1x, .int .u64 t.n1y, .slice t.s1 t.l1 t.c1]) (t := 28) (by simp) 2 rfl, hrc1⟩
                          clear hK K
                          try simp only [Act.put, List.setIfInBounds_toArray, List.set_cons_zero, List.set_cons_succ]
                          refine tk 3 hHeld ?_; refine tk 4 hHeld ?_; refine tk 5 hHeld ?_; refine tk 6 hHeld ?_
                          refine stepH 7 (by kernel_rfl) rfl (by rfl) (fun K hK => ?_)
                          go_simp
                          refine (zZero _).mono ?_
                          rintro e wc2 ⟨rfl, hbc2⟩
                          have hrc2 := HR.next hHeld.2.2.2 hbc2
                          refine hK.out _ _ ?_ (fun hHeld => ?_)
                          · exact ⟨HR.cell hrc2 (b := b6) (cs := #[.int .u64 t.n1x, .int .u64 t.n1y, .slice t.s1 t.l1 t.c1]) (t := 28) (by simp) 0 rfl, HR.cell hrc2 (b := b6) (cs := #[.int .u64 t.n1x, .int .u64 t.n1y, .slice t.s1 t.l1 t.c1]) (t := 28) (by simp) 1 rfl, HR.cell hrc2 (b := b6) (cs := #[.int .u64 t.n1x, .int .u64 t.n1y, .slice t.s1 t.l1 t.c1]) (t := 28) (by simp) 2 rfl, hrc2⟩
                          clear hK K
                          try simp only [Act.put, List.setIfInBounds_toArray, List.set_cons_zero, List.set_cons_succ]
                          refine takeH 8 (fun _ _ _ _ _ h => h) (by kernel_rfl) hHeld rfl (by kernel_rfl) (by rfl) (v := .bool false) ?_ ?_
                          · intro wz hz
                            (try dsimp only at hz)
                            go_simp
                            first | exact zeroB_no q2 | exact (zero_if _ _ _).trans (by rw [q2])
                          try simp only [Act.put, List.setIfInBounds_toArray, List.set_cons_zero, List.set_cons_succ]
                          refine tk 9 hHeld ?_; refine tk 10 hHeld ?_; refine tk 11 hHeld ?_; refine tk 12 hHeld ?_; refine tk 13 hHeld ?_; refine tk 14 hHeld ?_; refine tk 15 hHeld ?_
                          refine wpAnyH_done (by kernel_rfl) (NoPanic.normal ?_) _
                          have hL := Lib.hid hHeld.2.2.2
                          clear hHeld
                          have H7 := Lib.hid (HR.sub (qs := [(b1, (txC t), 37)]) hL.out (by simp))
                          clear hL H6 H1
                          go_wp2_with fail
                          go_roundw
                          case rel => exact ⟨2, by omega, rfl, hN2, H7⟩
                          case measure => simp [intOf]
                        · have hl : ((t.l1 : Int) != 32) = true := by simp only [bne_iff_ne]; omega
                          have hM : Hid (mayB t = false) := Lib.hid (may_c31 (by unfold c3; simp [q1, q2, q3]))
                          replace q3 := Lib.hid q3
                          replace q1 := Lib.hid q1
                          refine wp_region_noPanic ?_
                          refine wp_region_held_drew (S := fun wq => wq.cell? ⟨b6, 0, none⟩ = some (.int .u64 t.n1x) ∧ wq.cell? ⟨b6, 1, none⟩ = some (.int .u64 t.n1y) ∧ wq.cell? ⟨b6, 2, none⟩ = some (.slice t.s1 t.l1 t.c1) ∧ HR w wq [(b6, #[.int .u64 t.n1x, .int .u64 t.n1y, .slice t.s1 t.l1 t.c1], 28), (b1, (txC t), 37)]) (by kernel_rfl) ?_ (fun hHeld => ?_)
                          · have hq0 := HR.drew H6.out
                            exact ⟨HR.cell hq0 (b := b6) (cs := #[.int .u64 t.n1x, .int .u64 t.n1y, .slice t.s1 t.l1 t.c1]) (t := 28) (by simp) 0 rfl, HR.cell hq0 (b := b6) (cs := #[.int .u64 t.n1x, .int .u64 t.n1y, .slice t.s1 t.l1 t.c1]) (t := 28) (by simp) 1 rfl, HR.cell hq0 (b := b6) (cs := #[.int .u64 t.n1x, .int .u64 t.n1y, .slice t.s1 t.l1 t.c1]) (t := 28) (by simp) 2 rfl, hq0⟩
                          refine tk 0 hHeld ?_; refine tk 1 hHeld ?_
                          refine stepH 2 (by kernel_rfl) rfl (by rfl) (fun K hK => ?_)
                          go_simp
                          refine (cA.out _).mono ?_
                          rintro e wc1 ⟨rfl, hbc1⟩
                          have hrc1 := HR.next hHeld.2.2.2 hbc1
                          refine hK.out _ _ ?_ (fun hHeld => ?_)
                          · exact ⟨HR.cell hrc1 (b := b6) (cs := #[.int .u64 t.n1x, .int .u64 t.n1y, .slice t.s1 t.l1 t.c1]) (t := 28) (by simp) 0 rfl, HR.cell hrc1 (b := b6) (cs := #[.int .u64 t.n1x, .int .u64 t.n1y, .slice t.s1 t.l1 t.c1]) (t := 28) (by simp) 1 rfl, HR.cell hrc1 (b := b6) (cs := #[.int .u64 t.n1x, .int .u64 t.n1y, .slice t.s1 t.l1 t.c1]) (t := 28) (by simp) 2 rfl, hrc1⟩
                          clear hK K
                          try simp only [Act.put, List.setIfInBounds_toArray, List.set_cons_zero, List.set_cons_succ]
                          refine tk 3 hHeld ?_; refine tk 4 hHeld ?_; refine tk 5 hHeld ?_; refine tk 6 hHeld ?_
                          refine stepH 7 (by kernel_rfl) rfl (by rfl) (fun K hK => ?_)
                          go_simp
                          refine (zZero _).mono ?_
                          rintro e wc2 ⟨rfl, hbc2⟩
                          have hrc2 := HR.next hHeld.2.2.2 hbc2
                          refine hK.out _ _ ?_ (fun hHeld => ?_)
                          · exact ⟨HR.cell hrc2 (b := b6) (cs := #[.int .u64 t.n1x, .int .u64 t.n1y, .slice t.s1 t.l1 t.c1]) (t := 28) (by simp) 0 rfl, HR.cell hrc2 (b := b6) (cs := #[.int .u64 t.n1x, .int .u64 t.n1y, .slice t.s1 t.l1 t.c1]) (t := 28) (by simp) 1 rfl, HR.cell hrc2 (b := b6) (cs := #[.int .u64 t.n1x, .int .u64 t.n1y, .slice t.s1 t.l1 t.c1]) (t := 28) (by simp) 2 rfl, hrc2⟩
                          clear hK K
                          try simp only [Act.put, List.setIfInBounds_toArray, List.set_cons_zero, List.set_cons_succ]
                          refine takeH 8 (fun _ _ _ _ _ h => h) (by kernel_rfl) hHeld rfl (by kernel_rfl) (by rfl) (v := .bool false) ?_ ?_
                          · intro wz hz
                            (try dsimp only at hz)
                            go_simp
                            first | exact zeroB_no q2 | exact (zero_if _ _ _).trans (by rw [q2])
                          try simp only [Act.put, List.setIfInBounds_toArray, List.set_cons_zero, List.set_cons_succ]
                          refine tk 9 hHeld ?_; refine tk 10 hHeld ?_; refine tk 11 hHeld ?_; refine tk 12 hHeld ?_; refine tk 13 hHeld ?_; refine tk 14 hHeld ?_; refine tk 15 hHeld ?_
                          refine wpAnyH_done (by kernel_rfl) (NoPanic.normal ?_) _
                          have hL := Lib.hid hHeld.2.2.2
                          clear hHeld
                          go_wp2_with fail
                          go_ret
                          exact ⟨by rw [hM.out]; rfl, hL.out.2⟩
                      · have hM : Hid (mayB t = false) := Lib.hid (may_c31 (by unfold c3; simp [q1, q2]))
                        replace q1 := Lib.hid q1
                        refine wp_region_noPanic ?_
                        refine wp_region_held_drew (S := fun wq => wq.cell? ⟨b6, 0, none⟩ = some (.int .u64 t.n1x) ∧ wq.cell? ⟨b6, 1, none⟩ = some (.int .u64 t.n1y) ∧ wq.cell? ⟨b6, 2, none⟩ = some (.slice t.s1 t.l1 t.c1) ∧ HR w wq [(b6, #[.int .u64 t.n1x, .int .u64 t.n1y, .slice t.s1 t.l1 t.c1], 28), (b1, (txC t), 37)]) (by kernel_rfl) ?_ (fun hHeld => ?_)
                        · have hq0 := HR.drew H6.out
                          exact ⟨HR.cell hq0 (b := b6) (cs := #[.int .u64 t.n1x, .int .u64 t.n1y, .slice t.s1 t.l1 t.c1]) (t := 28) (by simp) 0 rfl, HR.cell hq0 (b := b6) (cs := #[.int .u64 t.n1x, .int .u64 t.n1y, .slice t.s1 t.l1 t.c1]) (t := 28) (by simp) 1 rfl, HR.cell hq0 (b := b6) (cs := #[.int .u64 t.n1x, .int .u64 t.n1y, .slice t.s1 t.l1 t.c1]) (t := 28) (by simp) 2 rfl, hq0⟩
                        refine tk 0 hHeld ?_; refine tk 1 hHeld ?_
                        refine stepH 2 (by kernel_rfl) rfl (by rfl) (fun K hK => ?_)
                        go_simp
                        refine (cA.out _).mono ?_
                        rintro e wc1 ⟨rfl, hbc1⟩
                        have hrc1 := HR.next hHeld.2.2.2 hbc1
                        refine hK.out _ _ ?_ (fun hHeld => ?_)
                        · exact ⟨HR.cell hrc1 (b := b6) (cs := #[.int .u64 t.n1x, .int .u64 t.n1y, .slice t.s1 t.l1 t.c1]) (t := 28) (by simp) 0 rfl, HR.cell hrc1 (b := b6) (cs := #[.int .u64 t.n1x, .int .u64 t.n1y, .slice t.s1 t.l1 t.c1]) (t := 28) (by simp) 1 rfl, HR.cell hrc1 (b := b6) (cs := #[.int .u64 t.n1x, .int .u64 t.n1y, .slice t.s1 t.l1 t.c1]) (t := 28) (by simp) 2 rfl, hrc1⟩
                        clear hK K
                        try simp only [Act.put, List.setIfInBounds_toArray, List.set_cons_zero, List.set_cons_succ]
                        refine tk 3 hHeld ?_; refine tk 4 hHeld ?_; refine tk 5 hHeld ?_; refine tk 6 hHeld ?_
                        refine stepH 7 (by kernel_rfl) rfl (by rfl) (fun K hK => ?_)
                        go_simp
                        refine (zZero _).mono ?_
                        rintro e wc2 ⟨rfl, hbc2⟩
                        have hrc2 := HR.next hHeld.2.2.2 hbc2
                        refine hK.out _ _ ?_ (fun hHeld => ?_)
                        · exact ⟨HR.cell hrc2 (b := b6) (cs := #[.int .u64 t.n1x, .int .u64 t.n1y, .slice t.s1 t.l1 t.c1]) (t := 28) (by simp) 0 rfl, HR.cell hrc2 (b := b6) (cs := #[.int .u64 t.n1x, .int .u64 t.n1y, .slice t.s1 t.l1 t.c1]) (t := 28) (by simp) 1 rfl, HR.cell hrc2 (b := b6) (cs := #[.int .u64 t.n1x, .int .u64 t.n1y, .slice t.s1 t.l1 t.c1]) (t := 28) (by simp) 2 rfl, hrc2⟩
                        clear hK K
                        try simp only [Act.put, List.setIfInBounds_toArray, List.set_cons_zero, List.set_cons_succ]
                        refine takeH 8 (fun _ _ _ _ _ h => h) (by kernel_rfl) hHeld rfl (by kernel_rfl) (by rfl) (v := .bool true) ?_ ?_
                        · intro wz hz
                          (try dsimp only at hz)
                          go_simp
                          exact (zero_if _ _ _).trans (by rw [q2])
                        try simp only [Act.put, List.setIfInBounds_toArray, List.set_cons_zero, List.set_cons_succ]
                        refine tk 9 hHeld ?_; refine tk 10 hHeld ?_; refine sk 11 hHeld ?_; refine sk 12 hHeld ?_; refine sk 13 hHeld ?_; refine sk 14 hHeld ?_; refine tk 15 hHeld ?_
                        refine wpAnyH_done (by kernel_rfl) (NoPanic.normal ?_) _
                        have hL := Lib.hid hHeld.2.2.2
                        clear hHeld
                        go_wp2_with fail
                        go_ret
                        exact ⟨by rw [hM.out]; rfl, hL.out.2⟩

            · have cA := Lib.hid (fun W => r7In t.fx t.fy hok.out.fx0 hok.out.fy0 W)
              have cB := Lib.hid (fun W => r7In t.tx t.ty hok.out.tx0 hok.out.ty0 W)
              go_upto_region 11 with fail
              cases q1 : inN (t.fx.toNat, t.fy.toNat)
              · rw [q1] at cA
                have hM : Hid (mayB t = false) := Lib.hid (may_c2 (by unfold c2; simp [q1]))
                refine wp_region_noPanic ?_
                refine wp_region_held_drew (S := fun wq => wq.cell? ⟨b1, 3, none⟩ = some (.int .u64 t.fx) ∧ wq.cell? ⟨b1, 4, none⟩ = some (.int .u64 t.fy) ∧ wq.cell? ⟨b1, 5, none⟩ = some (.int .u64 t.tx) ∧ wq.cell? ⟨b1, 6, none⟩ = some (.int .u64 t.ty) ∧ wq.cell? ⟨b1, 1, none⟩ = some (.int .u64 t.inn) ∧ wq.cell? ⟨b1, 2, none⟩ = some (.int .u64 t.out) ∧ HR w wq [(b1, (txC t), 37)]) (by kernel_rfl) ?_ (fun hHeld => ?_)
                · have hq0 := HR.drew H1.out
                  exact ⟨HR.cell hq0 (b := b1) (cs := (txC t)) (t := 37) (by simp) 3 rfl, HR.cell hq0 (b := b1) (cs := (txC t)) (t := 37) (by simp) 4 rfl, HR.cell hq0 (b := b1) (cs := (txC t)) (t := 37) (by simp) 5 rfl, HR.cell hq0 (b := b1) (cs := (txC t)) (t := 37) (by simp) 6 rfl, HR.cell hq0 (b := b1) (cs := (txC t)) (t := 37) (by simp) 1 rfl, HR.cell hq0 (b := b1) (cs := (txC t)) (t := 37) (by simp) 2 rfl, hq0⟩
                refine tk 0 hHeld ?_; refine tk 1 hHeld ?_
                refine stepH 2 (by kernel_rfl) rfl (by rfl) (fun K hK => ?_)
                go_simp
                refine (cA.out _).mono ?_
                rintro e wc1 ⟨rfl, hbc1⟩
                have hrc1 := HR.next hHeld.2.2.2.2.2.2 hbc1
                refine hK.out _ _ ?_ (fun hHeld => ?_)
                · exact ⟨HR.cell hrc1 (b := b1) (cs := (txC t)) (t := 37) (by simp) 3 rfl, HR.cell hrc1 (b := b1) (cs := (txC t)) (t := 37) (by simp) 4 rfl, HR.cell hrc1 (b := b1) (cs := (txC t)) (t := 37) (by simp) 5 rfl, HR.cell hrc1 (b := b1) (cs := (txC t)) (t := 37) (by simp) 6 rfl, HR.cell hrc1 (b := b1) (cs := (txC t)) (t := 37) (by simp) 1 rfl, HR.cell hrc1 (b := b1) (cs := (txC t)) (t := 37) (by simp) 2 rfl, hrc1⟩
                clear hK K
                try simp only [Act.put, List.setIfInBounds_toArray, List.set_cons_zero, List.set_cons_succ]
                refine tk 3 hHeld ?_; refine tk 4 hHeld ?_; refine sk 5 hHeld ?_; refine sk 6 hHeld ?_; refine sk 7 hHeld ?_; refine sk 8 hHeld ?_; refine tk 9 hHeld ?_; refine tk 10 hHeld ?_; refine sk 11 hHeld ?_; refine sk 12 hHeld ?_; refine sk 13 hHeld ?_; refine sk 14 hHeld ?_; refine sk 15 hHeld ?_; refine sk 16 hHeld ?_; refine sk 17 hHeld ?_; refine sk 18 hHeld ?_; refine tk 19 hHeld ?_; refine tk 20 hHeld ?_; refine sk 21 hHeld ?_; refine sk 22 hHeld ?_; refine sk 23 hHeld ?_; refine sk 24 hHeld ?_; refine sk 25 hHeld ?_; refine sk 26 hHeld ?_; refine sk 27 hHeld ?_; refine sk 28 hHeld ?_; refine tk 29 hHeld ?_
                refine wpAnyH_done (by kernel_rfl) (NoPanic.normal ?_) _
                have hL := Lib.hid hHeld.2.2.2.2.2.2
                clear hHeld
                go_wp2_with fail
                go_ret
                exact ⟨by rw [hM.out]; rfl, hL.out.2⟩
              · rw [q1] at cA
                cases q2 : inN (t.tx.toNat, t.ty.toNat)
                · rw [q2] at cB
                  have hM : Hid (mayB t = false) := Lib.hid (may_c2 (by unfold c2; simp [q1, q2]))
                  refine wp_region_noPanic ?_
                  refine wp_region_held_drew (S := fun wq => wq.cell? ⟨b1, 3, none⟩ = some (.int .u64 t.fx) ∧ wq.cell? ⟨b1, 4, none⟩ = some (.int .u64 t.fy) ∧ wq.cell? ⟨b1, 5, none⟩ = some (.int .u64 t.tx) ∧ wq.cell? ⟨b1, 6, none⟩ = some (.int .u64 t.ty) ∧ wq.cell? ⟨b1, 1, none⟩ = some (.int .u64 t.inn) ∧ wq.cell? ⟨b1, 2, none⟩ = some (.int .u64 t.out) ∧ HR w wq [(b1, (txC t), 37)]) (by kernel_rfl) ?_ (fun hHeld => ?_)
                  · have hq0 := HR.drew H1.out
                    exact ⟨HR.cell hq0 (b := b1) (cs := (txC t)) (t := 37) (by simp) 3 rfl, HR.cell hq0 (b := b1) (cs := (txC t)) (t := 37) (by simp) 4 rfl, HR.cell hq0 (b := b1) (cs := (txC t)) (t := 37) (by simp) 5 rfl, HR.cell hq0 (b := b1) (cs := (txC t)) (t := 37) (by simp) 6 rfl, HR.cell hq0 (b := b1) (cs := (txC t)) (t := 37) (by simp) 1 rfl, HR.cell hq0 (b := b1) (cs := (txC t)) (t := 37) (by simp) 2 rfl, hq0⟩
                  refine tk 0 hHeld ?_; refine tk 1 hHeld ?_
                  refine stepH 2 (by kernel_rfl) rfl (by rfl) (fun K hK => ?_)
                  go_simp
                  refine (cA.out _).mono ?_
                  rintro e wc1 ⟨rfl, hbc1⟩
                  have hrc1 := HR.next hHeld.2.2.2.2.2.2 hbc1
                  refine hK.out _ _ ?_ (fun hHeld => ?_)
                  · exact ⟨HR.cell hrc1 (b := b1) (cs := (txC t)) (t := 37) (by simp) 3 rfl, HR.cell hrc1 (b := b1) (cs := (txC t)) (t := 37) (by simp) 4 rfl, HR.cell hrc1 (b := b1) (cs := (txC t)) (t := 37) (by simp) 5 rfl, HR.cell hrc1 (b := b1) (cs := (txC t)) (t := 37) (by simp) 6 rfl, HR.cell hrc1 (b := b1) (cs := (txC t)) (t := 37) (by simp) 1 rfl, HR.cell hrc1 (b := b1) (cs := (txC t)) (t := 37) (by simp) 2 rfl, hrc1⟩
                  clear hK K
                  try simp only [Act.put, List.setIfInBounds_toArray, List.set_cons_zero, List.set_cons_succ]
                  refine tk 3 hHeld ?_; refine tk 4 hHeld ?_; refine tk 5 hHeld ?_; refine tk 6 hHeld ?_
                  refine stepH 7 (by kernel_rfl) rfl (by rfl) (fun K hK => ?_)
                  go_simp
                  refine (cB.out _).mono ?_
                  rintro e wc2 ⟨rfl, hbc2⟩
                  have hrc2 := HR.next hHeld.2.2.2.2.2.2 hbc2
                  refine hK.out _ _ ?_ (fun hHeld => ?_)
                  · exact ⟨HR.cell hrc2 (b := b1) (cs := (txC t)) (t := 37) (by simp) 3 rfl, HR.cell hrc2 (b := b1) (cs := (txC t)) (t := 37) (by simp) 4 rfl, HR.cell hrc2 (b := b1) (cs := (txC t)) (t := 37) (by simp) 5 rfl, HR.cell hrc2 (b := b1) (cs := (txC t)) (t := 37) (by simp) 6 rfl, HR.cell hrc2 (b := b1) (cs := (txC t)) (t := 37) (by simp) 1 rfl, HR.cell hrc2 (b := b1) (cs := (txC t)) (t := 37) (by simp) 2 rfl, hrc2⟩
                  clear hK K
                  try simp only [Act.put, List.setIfInBounds_toArray, List.set_cons_zero, List.set_cons_succ]
                  refine tk 8 hHeld ?_; refine tk 9 hHeld ?_; refine tk 10 hHeld ?_; refine sk 11 hHeld ?_; refine sk 12 hHeld ?_; refine sk 13 hHeld ?_; refine sk 14 hHeld ?_; refine sk 15 hHeld ?_; refine sk 16 hHeld ?_; refine sk 17 hHeld ?_; refine sk 18 hHeld ?_; refine tk 19 hHeld ?_; refine tk 20 hHeld ?_; refine sk 21 hHeld ?_; refine sk 22 hHeld ?_; refine sk 23 hHeld ?_; refine sk 24 hHeld ?_; refine sk 25 hHeld ?_; refine sk 26 hHeld ?_; refine sk 27 hHeld ?_; refine sk 28 hHeld ?_; refine tk 29 hHeld ?_
                  refine wpAnyH_done (by kernel_rfl) (NoPanic.normal ?_) _
                  have hL := Lib.hid hHeld.2.2.2.2.2.2
                  clear hHeld
                  go_wp2_with fail
                  go_ret
                  exact ⟨by rw [hM.out]; rfl, hL.out.2⟩
                · rw [q2] at cB
                  cases q3 : (zeroB t.fx t.fy == (t.inn == 0))
                  · have q3n : (zeroB t.fx t.fy != (t.inn == 0)) = true := by unfold bne; rw [q3]; rfl
                    have hM : Hid (mayB t = false) := Lib.hid (may_c2 (by unfold c2; simp [q1, q2, q3]))
                    refine wp_region_noPanic ?_
                    refine wp_region_held_drew (S := fun wq => wq.cell? ⟨b1, 3, none⟩ = some (.int .u64 t.fx) ∧ wq.cell? ⟨b1, 4, none⟩ = some (.int .u64 t.fy) ∧ wq.cell? ⟨b1, 5, none⟩ = some (.int .u64 t.tx) ∧ wq.cell? ⟨b1, 6, none⟩ = some (.int .u64 t.ty) ∧ wq.cell? ⟨b1, 1, none⟩ = some (.int .u64 t.inn) ∧ wq.cell? ⟨b1, 2, none⟩ = some (.int .u64 t.out) ∧ HR w wq [(b1, (txC t), 37)]) (by kernel_rfl) ?_ (fun hHeld => ?_)
                    · have hq0 := HR.drew H1.out
                      exact ⟨HR.cell hq0 (b := b1) (cs := (txC t)) (t := 37) (by simp) 3 rfl, HR.cell hq0 (b := b1) (cs := (txC t)) (t := 37) (by simp) 4 rfl, HR.cell hq0 (b := b1) (cs := (txC t)) (t := 37) (by simp) 5 rfl, HR.cell hq0 (b := b1) (cs := (txC t)) (t := 37) (by simp) 6 rfl, HR.cell hq0 (b := b1) (cs := (txC t)) (t := 37) (by simp) 1 rfl, HR.cell hq0 (b := b1) (cs := (txC t)) (t := 37) (by simp) 2 rfl, hq0⟩
                    refine tk 0 hHeld ?_; refine tk 1 hHeld ?_
                    refine stepH 2 (by kernel_rfl) rfl (by rfl) (fun K hK => ?_)
                    go_simp
                    refine (cA.out _).mono ?_
                    rintro e wc1 ⟨rfl, hbc1⟩
                    have hrc1 := HR.next hHeld.2.2.2.2.2.2 hbc1
                    refine hK.out _ _ ?_ (fun hHeld => ?_)
                    · exact ⟨HR.cell hrc1 (b := b1) (cs := (txC t)) (t := 37) (by simp) 3 rfl, HR.cell hrc1 (b := b1) (cs := (txC t)) (t := 37) (by simp) 4 rfl, HR.cell hrc1 (b := b1) (cs := (txC t)) (t := 37) (by simp) 5 rfl, HR.cell hrc1 (b := b1) (cs := (txC t)) (t := 37) (by simp) 6 rfl, HR.cell hrc1 (b := b1) (cs := (txC t)) (t := 37) (by simp) 1 rfl, HR.cell hrc1 (b := b1) (cs := (txC t)) (t := 37) (by simp) 2 rfl, hrc1⟩
                    clear hK K
                    try simp only [Act.put, List.setIfInBounds_toArray, List.set_cons_zero, List.set_cons_succ]
                    refine tk 3 hHeld ?_; refine tk 4 hHeld ?_; refine tk 5 hHeld ?_; refine tk 6 hHeld ?_
                    refine stepH 7 (by kernel_rfl) rfl (by rfl) (fun K hK => ?_)
                    go_simp
                    refine (cB.out _).mono ?_
                    rintro e wc2 ⟨rfl, hbc2⟩
                    have hrc2 := HR.next hHeld.2.2.2.2.2.2 hbc2
                    refine hK.out _ _ ?_ (fun hHeld => ?_)
                    · exact ⟨HR.cell hrc2 (b := b1) (cs := (txC t)) (t := 37) (by simp) 3 rfl, HR.cell hrc2 (b := b1) (cs := (txC t)) (t := 37) (by simp) 4 rfl, HR.cell hrc2 (b := b1) (cs := (txC t)) (t := 37) (by simp) 5 rfl, HR.cell hrc2 (b := b1) (cs := (txC t)) (t := 37) (by simp) 6 rfl, HR.cell hrc2 (b := b1) (cs := (txC t)) (t := 37) (by simp) 1 rfl, HR.cell hrc2 (b := b1) (cs := (txC t)) (t := 37) (by simp) 2 rfl, hrc2⟩
                    clear hK K
                    try simp only [Act.put, List.setIfInBounds_toArray, List.set_cons_zero, List.set_cons_succ]
                    refine tk 8 hHeld ?_; refine tk 9 hHeld ?_; refine tk 10 hHeld ?_; refine tk 11 hHeld ?_; refine tk 12 hHeld ?_; refine tk 15 hHeld ?_; refine tk 16 hHeld ?_; refine tk 17 hHeld ?_
                    refine stepH 13 (by kernel_rfl) rfl (by rfl) (fun K hK => ?_)
                    go_simp
                    refine (zZero _).mono ?_
                    rintro e wc3 ⟨rfl, hbc3⟩
                    have hrc3 := HR.next hHeld.2.2.2.2.2.2 hbc3
                    refine hK.out _ _ ?_ (fun hHeld => ?_)
                    · exact ⟨HR.cell hrc3 (b := b1) (cs := (txC t)) (t := 37) (by simp) 3 rfl, HR.cell hrc3 (b := b1) (cs := (txC t)) (t := 37) (by simp) 4 rfl, HR.cell hrc3 (b := b1) (cs := (txC t)) (t := 37) (by simp) 5 rfl, HR.cell hrc3 (b := b1) (cs := (txC t)) (t := 37) (by simp) 6 rfl, HR.cell hrc3 (b := b1) (cs := (txC t)) (t := 37) (by simp) 1 rfl, HR.cell hrc3 (b := b1) (cs := (txC t)) (t := 37) (by simp) 2 rfl, hrc3⟩
                    clear hK K
                    try simp only [Act.put, List.setIfInBounds_toArray, List.set_cons_zero, List.set_cons_succ]
                    refine takeH 14 (fun _ _ _ _ _ h => h) (by kernel_rfl) hHeld rfl (by kernel_rfl) (by rfl) (v := .bool (zeroB t.fx t.fy)) ?_ ?_
                    · intro wz hz
                      (try dsimp only at hz)
                      go_simp
                      exact zero_if _ _ _
                    try simp only [Act.put, List.setIfInBounds_toArray, List.set_cons_zero, List.set_cons_succ]
                    refine takeH 18 (fun _ _ _ _ _ h => h) (by kernel_rfl) hHeld rfl (by kernel_rfl) (by rfl) (v := .bool true) ?_ ?_
                    · intro wz hz
                      (try dsimp only at hz)
                      go_simp
                      try rw [q3n]
                    try simp only [Act.put, List.setIfInBounds_toArray, List.set_cons_zero, List.set_cons_succ]
                    refine tk 19 hHeld ?_; refine tk 20 hHeld ?_; refine sk 21 hHeld ?_; refine sk 22 hHeld ?_; refine sk 23 hHeld ?_; refine sk 24 hHeld ?_; refine sk 25 hHeld ?_; refine sk 26 hHeld ?_; refine sk 27 hHeld ?_; refine sk 28 hHeld ?_; refine tk 29 hHeld ?_
                    refine wpAnyH_done (by kernel_rfl) (NoPanic.normal ?_) _
                    have hL := Lib.hid hHeld.2.2.2.2.2.2
                    clear hHeld
                    go_wp2_with fail
                    go_ret
                    exact ⟨by rw [hM.out]; rfl, hL.out.2⟩
                  · have q3n : (zeroB t.fx t.fy != (t.inn == 0)) = false := by unfold bne; rw [q3]; rfl
                    cases q4 : (zeroB t.tx t.ty == (t.out == 0))
                    · have q4n : (zeroB t.tx t.ty != (t.out == 0)) = true := by unfold bne; rw [q4]; rfl
                      have hM : Hid (mayB t = false) := Lib.hid (may_c2 (by unfold c2; simp [q1, q2, q3, q4]))
                      refine wp_region_noPanic ?_
                      refine wp_region_held_drew (S := fun wq => wq.cell? ⟨b1, 3, none⟩ = some (.int .u64 t.fx) ∧ wq.cell? ⟨b1, 4, none⟩ = some (.int .u64 t.fy) ∧ wq.cell? ⟨b1, 5, none⟩ = some (.int .u64 t.tx) ∧ wq.cell? ⟨b1, 6, none⟩ = some (.int .u64 t.ty) ∧ wq.cell? ⟨b1, 1, none⟩ = some (.int .u64 t.inn) ∧ wq.cell? ⟨b1, 2, none⟩ = some (.int .u64 t.out) ∧ HR w wq [(b1, (txC t), 37)]) (by kernel_rfl) ?_ (fun hHeld => ?_)
                      · have hq0 := HR.drew H1.out
                        exact ⟨HR.cell hq0 (b := b1) (cs := (txC t)) (t := 37) (by simp) 3 rfl, HR.cell hq0 (b := b1) (cs := (txC t)) (t := 37) (by simp) 4 rfl, HR.cell hq0 (b := b1) (cs := (txC t)) (t := 37) (by simp) 5 rfl, HR.cell hq0 (b := b1) (cs := (txC t)) (t := 37) (by simp) 6 rfl, HR.cell hq0 (b := b1) (cs := (txC t)) (t := 37) (by simp) 1 rfl, HR.cell hq0 (b := b1) (cs := (txC t)) (t := 37) (by simp) 2 rfl, hq0⟩
                      refine tk 0 hHeld ?_; refine tk 1 hHeld ?_
                      refine stepH 2 (by kernel_rfl) rfl (by rfl) (fun K hK => ?_)
                      go_simp
                      refine (cA.out _).mono ?_
                      rintro e wc1 ⟨rfl, hbc1⟩
                      have hrc1 := HR.next hHeld.2.2.2.2.2.2 hbc1
                      refine hK.out _ _ ?_ (fun hHeld => ?_)
                      · exact ⟨HR.cell hrc1 (b := b1) (cs := (txC t)) (t := 37) (by simp) 3 rfl, HR.cell hrc1 (b := b1) (cs := (txC t)) (t := 37) (by simp) 4 rfl, HR.cell hrc1 (b := b1) (cs := (txC t)) (t := 37) (by simp) 5 rfl, HR.cell hrc1 (b := b1) (cs := (txC t)) (t := 37) (by simp) 6 rfl, HR.cell hrc1 (b := b1) (cs := (txC t)) (t := 37) (by simp) 1 rfl, HR.cell hrc1 (b := b1) (cs := (txC t)) (t := 37) (by simp) 2 rfl, hrc1⟩
                      clear hK K
                      try simp only [Act.put, List.setIfInBounds_toArray, List.set_cons_zero, List.set_cons_succ]
                      refine tk 3 hHeld ?_; refine tk 4 hHeld ?_; refine tk 5 hHeld ?_; refine tk 6 hHeld ?_
                      refine stepH 7 (by kernel_rfl) rfl (by rfl) (fun K hK => ?_)
                      go_simp
                      refine (cB.out _).mono ?_
                      rintro e wc2 ⟨rfl, hbc2⟩
                      have hrc2 := HR.next hHeld.2.2.2.2.2.2 hbc2
                      refine hK.out _ _ ?_ (fun hHeld => ?_)
                      · exact ⟨HR.cell hrc2 (b := b1) (cs := (txC t)) (t := 37) (by simp) 3 rfl, HR.cell hrc2 (b := b1) (cs := (txC t)) (t := 37) (by simp) 4 rfl, HR.cell hrc2 (b := b1) (cs := (txC t)) (t := 37) (by simp) 5 rfl, HR.cell hrc2 (b := b1) (cs := (txC t)) (t := 37) (by simp) 6 rfl, HR.cell hrc2 (b := b1) (cs := (txC t)) (t := 37) (by simp) 1 rfl, HR.cell hrc2 (b := b1) (cs := (txC t)) (t := 37) (by simp) 2 rfl, hrc2⟩
                      clear hK K
                      try simp only [Act.put, List.setIfInBounds_toArray, List.set_cons_zero, List.set_cons_succ]
                      refine tk 8 hHeld ?_; refine tk 9 hHeld ?_; refine tk 10 hHeld ?_; refine tk 11 hHeld ?_; refine tk 12 hHeld ?_; refine tk 15 hHeld ?_; refine tk 16 hHeld ?_; refine tk 17 hHeld ?_
                      refine stepH 13 (by kernel_rfl) rfl (by rfl) (fun K hK => ?_)
                      go_simp
                      refine (zZero _).mono ?_
                      rintro e wc3 ⟨rfl, hbc3⟩
                      have hrc3 := HR.next hHeld.2.2.2.2.2.2 hbc3
                      refine hK.out _ _ ?_ (fun hHeld => ?_)
                      · exact ⟨HR.cell hrc3 (b := b1) (cs := (txC t)) (t := 37) (by simp) 3 rfl, HR.cell hrc3 (b := b1) (cs := (txC t)) (t := 37) (by simp) 4 rfl, HR.cell hrc3 (b := b1) (cs := (txC t)) (t := 37) (by simp) 5 rfl, HR.cell hrc3 (b := b1) (cs := (txC t)) (t := 37) (by simp) 6 rfl, HR.cell hrc3 (b := b1) (cs := (txC t)) (t := 37) (by simp) 1 rfl, HR.cell hrc3 (b := b1) (cs := (txC t)) (t := 37) (by simp) 2 rfl, hrc3⟩
                      clear hK K
                      try simp only [Act.put, List.setIfInBounds_toArray, List.set_cons_zero, List.set_cons_succ]
                      refine takeH 14 (fun _ _ _ _ _ h => h) (by kernel_rfl) hHeld rfl (by kernel_rfl) (by rfl) (v := .bool (zeroB t.fx t.fy)) ?_ ?_
                      · intro wz hz
                        (try dsimp only at hz)
                        go_simp
                        exact zero_if _ _ _
                      try simp only [Act.put, List.setIfInBounds_toArray, List.set_cons_zero, List.set_cons_succ]
                      refine takeH 18 (fun _ _ _ _ _ h => h) (by kernel_rfl) hHeld rfl (by kernel_rfl) (by rfl) (v := .bool false) ?_ ?_
                      · intro wz hz
                        (try dsimp only at hz)
                        go_simp
                        try rw [q3n]
                      try simp only [Act.put, List.setIfInBounds_toArray, List.set_cons_zero, List.set_cons_succ]
                      refine tk 19 hHeld ?_; refine tk 20 hHeld ?_; refine tk 21 hHeld ?_; refine tk 22 hHeld ?_; refine tk 25 hHeld ?_; refine tk 26 hHeld ?_; refine tk 27 hHeld ?_
                      refine stepH 23 (by kernel_rfl) rfl (by rfl) (fun K hK => ?_)
                      go_simp
                      refine (zZero _).mono ?_
                      rintro e wc4 ⟨rfl, hbc4⟩
                      have hrc4 := HR.next hHeld.2.2.2.2.2.2 hbc4
                      refine hK.out _ _ ?_ (fun hHeld => ?_)
                      · exact ⟨HR.cell hrc4 (b := b1) (cs := (txC t)) (t := 37) (by simp) 3 rfl, HR.cell hrc4 (b := b1) (cs := (txC t)) (t := 37) (by simp) 4 rfl, HR.cell hrc4 (b := b1) (cs := (txC t)) (t := 37) (by simp) 5 rfl, HR.cell hrc4 (b := b1) (cs := (txC t)) (t := 37) (by simp) 6 rfl, HR.cell hrc4 (b := b1) (cs := (txC t)) (t := 37) (by simp) 1 rfl, HR.cell hrc4 (b := b1) (cs := (txC t)) (t := 37) (by simp) 2 rfl, hrc4⟩
                      clear hK K
                      try simp only [Act.put, List.setIfInBounds_toArray, List.set_cons_zero, List.set_cons_succ]
                      refine takeH 24 (fun _ _ _ _ _ h => h) (by kernel_rfl) hHeld rfl (by kernel_rfl) (by rfl) (v := .bool (zeroB t.tx t.ty)) ?_ ?_
                      · intro wz hz
                        (try dsimp only at hz)
                        go_simp
                        exact zero_if _ _ _
                      try simp only [Act.put, List.setIfInBounds_toArray, List.set_cons_zero, List.set_cons_succ]
                      refine takeH 28 (fun _ _ _ _ _ h => h) (by kernel_rfl) hHeld rfl (by kernel_rfl) (by rfl) (v := .bool true) ?_ ?_
                      · intro wz hz
                        (try dsimp only at hz)
                        go_simp
                        try rw [q4n]
                      try simp only [Act.put, List.setIfInBounds_toArray, List.set_cons_zero, List.set_cons_succ]
                      refine tk 29 hHeld ?_
                      refine wpAnyH_done (by kernel_rfl) (NoPanic.normal ?_) _
                      have hL := Lib.hid hHeld.2.2.2.2.2.2
                      clear hHeld
                      go_wp2_with fail
                      go_ret
                      exact ⟨by rw [hM.out]; rfl, hL.out.2⟩
                    · have q4n : (zeroB t.tx t.ty != (t.out == 0)) = false := by unfold bne; rw [q4]; rfl
                      have h5 : Hid (c2 t = true) := Lib.hid (by unfold c2; simp [q1, q2, q3, q4])
                      refine wp_region_noPanic ?_
                      refine wp_region_held_drew (S := fun wq => wq.cell? ⟨b1, 3, none⟩ = some (.int .u64 t.fx) ∧ wq.cell? ⟨b1, 4, none⟩ = some (.int .u64 t.fy) ∧ wq.cell? ⟨b1, 5, none⟩ = some (.int .u64 t.tx) ∧ wq.cell? ⟨b1, 6, none⟩ = some (.int .u64 t.ty) ∧ wq.cell? ⟨b1, 1, none⟩ = some (.int .u64 t.inn) ∧ wq.cell? ⟨b1, 2, none⟩ = some (.int .u64 t.out) ∧ HR w wq [(b1, (txC t), 37)]) (by kernel_rfl) ?_ (fun hHeld => ?_)
                      · have hq0 := HR.drew H1.out
                        exact ⟨HR.cell hq0 (b := b1) (cs := (txC t)) (t := 37) (by simp) 3 rfl, HR.cell hq0 (b := b1) (cs := (txC t)) (t := 37) (by simp) 4 rfl, HR.cell hq0 (b := b1) (cs := (txC t)) (t := 37) (by simp) 5 rfl, HR.cell hq0 (b := b1) (cs := (txC t)) (t := 37) (by simp) 6 rfl, HR.cell hq0 (b := b1) (cs := (txC t)) (t := 37) (by simp) 1 rfl, HR.cell hq0 (b := b1) (cs := (txC t)) (t := 37) (by simp) 2 rfl, hq0⟩
                      refine tk 0 hHeld ?_; refine tk 1 hHeld ?_
                      refine stepH 2 (by kernel_rfl) rfl (by rfl) (fun K hK => ?_)
                      go_simp
                      refine (cA.out _).mono ?_
                      rintro e wc1 ⟨rfl, hbc1⟩
                      have hrc1 := HR.next hHeld.2.2.2.2.2.2 hbc1
                      refine hK.out _ _ ?_ (fun hHeld => ?_)
                      · exact ⟨HR.cell hrc1 (b := b1) (cs := (txC t)) (t := 37) (by simp) 3 rfl, HR.cell hrc1 (b := b1) (cs := (txC t)) (t := 37) (by simp) 4 rfl, HR.cell hrc1 (b := b1) (cs := (txC t)) (t := 37) (by simp) 5 rfl, HR.cell hrc1 (b := b1) (cs := (txC t)) (t := 37) (by simp) 6 rfl, HR.cell hrc1 (b := b1) (cs := (txC t)) (t := 37) (by simp) 1 rfl, HR.cell hrc1 (b := b1) (cs := (txC t)) (t := 37) (by simp) 2 rfl, hrc1⟩
                      clear hK K
                      try simp only [Act.put, List.setIfInBounds_toArray, List.set_cons_zero, List.set_cons_succ]
                      refine tk 3 hHeld ?_; refine tk 4 hHeld ?_; refine tk 5 hHeld ?_; refine tk 6 hHeld ?_
                      refine stepH 7 (by kernel_rfl) rfl (by rfl) (fun K hK => ?_)
                      go_simp
                      refine (cB.out _).mono ?_
                      rintro e wc2 ⟨rfl, hbc2⟩
                      have hrc2 := HR.next hHeld.2.2.2.2.2.2 hbc2
                      refine hK.out _ _ ?_ (fun hHeld => ?_)
                      · exact ⟨HR.cell hrc2 (b := b1) (cs := (txC t)) (t := 37) (by simp) 3 rfl, HR.cell hrc2 (b := b1) (cs := (txC t)) (t := 37) (by simp) 4 rfl, HR.cell hrc2 (b := b1) (cs := (txC t)) (t := 37) (by simp) 5 rfl, HR.cell hrc2 (b := b1) (cs := (txC t)) (t := 37) (by simp) 6 rfl, HR.cell hrc2 (b := b1) (cs := (txC t)) (t := 37) (by simp) 1 rfl, HR.cell hrc2 (b := b1) (cs := (txC t)) (t := 37) (by simp) 2 rfl, hrc2⟩
                      clear hK K
                      try simp only [Act.put, List.setIfInBounds_toArray, List.set_cons_zero, List.set_cons_succ]
                      refine tk 8 hHeld ?_; refine tk 9 hHeld ?_; refine tk 10 hHeld ?_; refine tk 11 hHeld ?_; refine tk 12 hHeld ?_; refine tk 15 hHeld ?_; refine tk 16 hHeld ?_; refine tk 17 hHeld ?_
                      refine stepH 13 (by kernel_rfl) rfl (by rfl) (fun K hK => ?_)
                      go_simp
                      refine (zZero _).mono ?_
                      rintro e wc3 ⟨rfl, hbc3⟩
                      have hrc3 := HR.next hHeld.2.2.2.2.2.2 hbc3
                      refine hK.out _ _ ?_ (fun hHeld => ?_)
                      · exact ⟨HR.cell hrc3 (b := b1) (cs := (txC t)) (t := 37) (by simp) 3 rfl, HR.cell hrc3 (b := b1) (cs := (txC t)) (t := 37) (by simp) 4 rfl, HR.cell hrc3 (b := b1) (cs := (txC t)) (t := 37) (by simp) 5 rfl, HR.cell hrc3 (b := b1) (cs := (txC t)) (t := 37) (by simp) 6 rfl, HR.cell hrc3 (b := b1) (cs := (txC t)) (t := 37) (by simp) 1 rfl, HR.cell hrc3 (b := b1) (cs := (txC t)) (t := 37) (by simp) 2 rfl, hrc3⟩
                      clear hK K
                      try simp only [Act.put, List.setIfInBounds_toArray, List.set_cons_zero, List.set_cons_succ]
                      refine takeH 14 (fun _ _ _ _ _ h => h) (by kernel_rfl) hHeld rfl (by kernel_rfl) (by rfl) (v := .bool (zeroB t.fx t.fy)) ?_ ?_
                      · intro wz hz
                        (try dsimp only at hz)
                        go_simp
                        exact zero_if _ _ _
                      try simp only [Act.put, List.setIfInBounds_toArray, List.set_cons_zero, List.set_cons_succ]
                      refine takeH 18 (fun _ _ _ _ _ h => h) (by kernel_rfl) hHeld rfl (by kernel_rfl) (by rfl) (v := .bool false) ?_ ?_
                      · intro wz hz
                        (try dsimp only at hz)
                        go_simp
                        try rw [q3n]
                      try simp only [Act.put, List.setIfInBounds_toArray, List.set_cons_zero, List.set_cons_succ]
                      refine tk 19 hHeld ?_; refine tk 20 hHeld ?_; refine tk 21 hHeld ?_; refine tk 22 hHeld ?_; refine tk 25 hHeld ?_; refine tk 26 hHeld ?_; refine tk 27 hHeld ?_
                      refine stepH 23 (by kernel_rfl) rfl (by rfl) (fun K hK => ?_)
                      go_simp
                      refine (zZero _).mono ?_
                      rintro e wc4 ⟨rfl, hbc4⟩
                      have hrc4 := HR.next hHeld.2.2.2.2.2.2 hbc4
                      refine hK.out _ _ ?_ (fun hHeld => ?_)
                      · exact ⟨HR.cell hrc4 (b := b1) (cs := (txC t)) (t := 37) (by simp) 3 rfl, HR.cell hrc4 (b := b1) (cs := (txC t)) (t := 37) (by simp) 4 rfl, HR.cell hrc4 (b := b1) (cs := (txC t)) (t := 37) (by simp) 5 rfl, HR.cell hrc4 (b := b1) (cs := (txC t)) (t := 37) (by simp) 6 rfl, HR.cell hrc4 (b := b1) (cs := (txC t)) (t := 37) (by simp) 1 rfl, HR.cell hrc4 (b := b1) (cs := (txC t)) (t := 37) (by simp) 2 rfl, hrc4⟩
                      clear hK K
                      try simp only [Act.put, List.setIfInBounds_toArray, List.set_cons_zero, List.set_cons_succ]
                      refine takeH 24 (fun _ _ _ _ _ h => h) (by kernel_rfl) hHeld rfl (by kernel_rfl) (by rfl) (v := .bool (zeroB t.tx t.ty)) ?_ ?_
                      · intro wz hz
                        (try dsimp only at hz)
                        go_simp
                        exact zero_if _ _ _
                      try simp only [Act.put, List.setIfInBounds_toArray, List.set_cons_zero, List.set_cons_succ]
                      refine takeH 28 (fun _ _ _ _ _ h => h) (by kernel_rfl) hHeld rfl (by kernel_rfl) (by rfl) (v := .bool false) ?_ ?_
                      · intro wz hz
                        (try dsimp only at hz)
                        go_simp
                        try rw [q4n]
                      try simp only [Act.put, List.setIfInBounds_toArray, List.set_cons_zero, List.set_cons_succ]
                      refine tk 29 hHeld ?_
                      refine wpAnyH_done (by kernel_rfl) (NoPanic.normal ?_) _
                      have hL := Lib.hid hHeld.2.2.2.2.2.2
                      clear hHeld
                      clear q1 q2 q3 q4 q3n q4n cA cB H1
                      have cA := Lib.hid (fun W => r3In t.ia t.xa t.ya hok.out.xa0 hok.out.ya0 W)
                      have cB := Lib.hid (fun W => r3In t.ib t.xb t.yb hok.out.xb0 hok.out.yb0 W)
                      have cC := Lib.hid (fun W => r3In t.ic t.xc t.yc hok.out.xc0 hok.out.yc0 W)
                      have cG := Lib.hid (fun W => r7In t.gx t.gy hok.out.gx0 hok.out.gy0 W)
                      cases p0 : inPt t.ia t.xa t.ya
                      · rw [p0] at cA
                        have hM : Hid (mayB t = false) := Lib.hid (may_c4 (by unfold c4; simp [p0]))
                        replace p0 := Lib.hid p0
                        have k_ia := HR.cell hL.out (b := b1) (cs := (txC t)) (t := 37) (by simp) 20 rfl
                        have k_xa := HR.cell hL.out (b := b1) (cs := (txC t)) (t := 37) (by simp) 21 rfl
                        have k_ya := HR.cell hL.out (b := b1) (cs := (txC t)) (t := 37) (by simp) 22 rfl
                        have k_ib := HR.cell hL.out (b := b1) (cs := (txC t)) (t := 37) (by simp) 23 rfl
                        have k_xb := HR.cell hL.out (b := b1) (cs := (txC t)) (t := 37) (by simp) 24 rfl
                        have k_yb := HR.cell hL.out (b := b1) (cs := (txC t)) (t := 37) (by simp) 25 rfl
                        have k_ic := HR.cell hL.out (b := b1) (cs := (txC t)) (t := 37) (by simp) 26 rfl
                        have k_xc := HR.cell hL.out (b := b1) (cs := (txC t)) (t := 37) (by simp) 27 rfl
                        have k_yc := HR.cell hL.out (b := b1) (cs := (txC t)) (t := 37) (by simp) 28 rfl
                        have k_gx := HR.cell hL.out (b := b1) (cs := (txC t)) (t := 37) (by simp) 29 rfl
                        have k_gy := HR.cell hL.out (b := b1) (cs := (txC t)) (t := 37) (by simp) 30 rfl
                        have k_gz := HR.cell hL.out (b := b1) (cs := (txC t)) (t := 37) (by simp) 31 rfl
                        go_wp2_with fail
                        refine (cA.out _).mono ?_
                        rintro e w3 ⟨rfl, hb3⟩
                        have L0 := Lib.hid (hL.out.next hb3)
                        clear k_ia k_xa k_ya k_ib k_xb k_yb k_ic k_xc k_yc k_gx k_gy k_gz
                        clear hb3
                        have k_ia := HR.cell L0.out (b := b1) (cs := (txC t)) (t := 37) (by simp) 20 rfl
                        have k_xa := HR.cell L0.out (b := b1) (cs := (txC t)) (t := 37) (by simp) 21 rfl
                        have k_ya := HR.cell L0.out (b := b1) (cs := (txC t)) (t := 37) (by simp) 22 rfl
                        have k_ib := HR.cell L0.out (b := b1) (cs := (txC t)) (t := 37) (by simp) 23 rfl
                        have k_xb := HR.cell L0.out (b := b1) (cs := (txC t)) (t := 37) (by simp) 24 rfl
                        have k_yb := HR.cell L0.out (b := b1) (cs := (txC t)) (t := 37) (by simp) 25 rfl
                        have k_ic := HR.cell L0.out (b := b1) (cs := (txC t)) (t := 37) (by simp) 26 rfl
                        have k_xc := HR.cell L0.out (b := b1) (cs := (txC t)) (t := 37) (by simp) 27 rfl
                        have k_yc := HR.cell L0.out (b := b1) (cs := (txC t)) (t := 37) (by simp) 28 rfl
                        have k_gx := HR.cell L0.out (b := b1) (cs := (txC t)) (t := 37) (by simp) 29 rfl
                        have k_gy := HR.cell L0.out (b := b1) (cs := (txC t)) (t := 37) (by simp) 30 rfl
                        have k_gz := HR.cell L0.out (b := b1) (cs := (txC t)) (t := 37) (by simp) 31 rfl
                        go_wp2_with fail
                        go_ret
                        exact ⟨by rw [hM.out]; rfl, L0.out.2⟩
                      · rw [p0] at cA
                        replace p0 := Lib.hid p0
                        have k_ia := HR.cell hL.out (b := b1) (cs := (txC t)) (t := 37) (by simp) 20 rfl
                        have k_xa := HR.cell hL.out (b := b1) (cs := (txC t)) (t := 37) (by simp) 21 rfl
                        have k_ya := HR.cell hL.out (b := b1) (cs := (txC t)) (t := 37) (by simp) 22 rfl
                        have k_ib := HR.cell hL.out (b := b1) (cs := (txC t)) (t := 37) (by simp) 23 rfl
                        have k_xb := HR.cell hL.out (b := b1) (cs := (txC t)) (t := 37) (by simp) 24 rfl
                        have k_yb := HR.cell hL.out (b := b1) (cs := (txC t)) (t := 37) (by simp) 25 rfl
                        have k_ic := HR.cell hL.out (b := b1) (cs := (txC t)) (t := 37) (by simp) 26 rfl
                        have k_xc := HR.cell hL.out (b := b1) (cs := (txC t)) (t := 37) (by simp) 27 rfl
                        have k_yc := HR.cell hL.out (b := b1) (cs := (txC t)) (t := 37) (by simp) 28 rfl
                        have k_gx := HR.cell hL.out (b := b1) (cs := (txC t)) (t := 37) (by simp) 29 rfl
                        have k_gy := HR.cell hL.out (b := b1) (cs := (txC t)) (t := 37) (by simp) 30 rfl
                        have k_gz := HR.cell hL.out (b := b1) (cs := (txC t)) (t := 37) (by simp) 31 rfl
                        go_wp2_with fail
                        refine (cA.out _).mono ?_
                        rintro e w3 ⟨rfl, hb3⟩
                        have L0 := Lib.hid (hL.out.next hb3)
                        clear k_ia k_xa k_ya k_ib k_xb k_yb k_ic k_xc k_yc k_gx k_gy k_gz
                        clear hb3
                        cases p1 : inPt t.ib t.xb t.yb
                        · rw [p1] at cB
                          have hM : Hid (mayB t = false) := Lib.hid (may_c4 (by unfold c4; simp [p0, p1]))
                          replace p1 := Lib.hid p1
                          have k_ia := HR.cell L0.out (b := b1) (cs := (txC t)) (t := 37) (by simp) 20 rfl
                          have k_xa := HR.cell L0.out (b := b1) (cs := (txC t)) (t := 37) (by simp) 21 rfl
                          have k_ya := HR.cell L0.out (b := b1) (cs := (txC t)) (t := 37) (by simp) 22 rfl
                          have k_ib := HR.cell L0.out (b := b1) (cs := (txC t)) (t := 37) (by simp) 23 rfl
                          have k_xb := HR.cell L0.out (b := b1) (cs := (txC t)) (t := 37) (by simp) 24 rfl
                          have k_yb := HR.cell L0.out (b := b1) (cs := (txC t)) (t := 37) (by simp) 25 rfl
                          have k_ic := HR.cell L0.out (b := b1) (cs := (txC t)) (t := 37) (by simp) 26 rfl
                          have k_xc := HR.cell L0.out (b := b1) (cs := (txC t)) (t := 37) (by simp) 27 rfl
                          have k_yc := HR.cell L0.out (b := b1) (cs := (txC t)) (t := 37) (by simp) 28 rfl
                          have k_gx := HR.cell L0.out (b := b1) (cs := (txC t)) (t := 37) (by simp) 29 rfl
                          have k_gy := HR.cell L0.out (b := b1) (cs := (txC t)) (t := 37) (by simp) 30 rfl
                          have k_gz := HR.cell L0.out (b := b1) (cs := (txC t)) (t := 37) (by simp) 31 rfl
                          go_wp2_with fail
                          refine (cB.out _).mono ?_
                          rintro e w4 ⟨rfl, hb4⟩
                          have L1 := Lib.hid (L0.out.next hb4)
                          clear k_ia k_xa k_ya k_ib k_xb k_yb k_ic k_xc k_yc k_gx k_gy k_gz
                          clear hb4
                          have k_ia := HR.cell L1.out (b := b1) (cs := (txC t)) (t := 37) (by simp) 20 rfl
                          have k_xa := HR.cell L1.out (b := b1) (cs := (txC t)) (t := 37) (by simp) 21 rfl
                          have k_ya := HR.cell L1.out (b := b1) (cs := (txC t)) (t := 37) (by simp) 22 rfl
                          have k_ib := HR.cell L1.out (b := b1) (cs := (txC t)) (t := 37) (by simp) 23 rfl
                          have k_xb := HR.cell L1.out (b := b1) (cs := (txC t)) (t := 37) (by simp) 24 rfl
                          have k_yb := HR.cell L1.out (b := b1) (cs := (txC t)) (t := 37) (by simp) 25 rfl
                          have k_ic := HR.cell L1.out (b := b1) (cs := (txC t)) (t := 37) (by simp) 26 rfl
                          have k_xc := HR.cell L1.out (b := b1) (cs := (txC t)) (t := 37) (by simp) 27 rfl
                          have k_yc := HR.cell L1.out (b := b1) (cs := (txC t)) (t := 37) (by simp) 28 rfl
                          have k_gx := HR.cell L1.out (b := b1) (cs := (txC t)) (t := 37) (by simp) 29 rfl
                          have k_gy := HR.cell L1.out (b := b1) (cs := (txC t)) (t := 37) (by simp) 30 rfl
                          have k_gz := HR.cell L1.out (b := b1) (cs := (txC t)) (t := 37) (by simp) 31 rfl
                          go_wp2_with fail
                          go_ret
                          exact ⟨by rw [hM.out]; rfl, L1.out.2⟩
                        · rw [p1] at cB
                          replace p1 := Lib.hid p1
                          have k_ia := HR.cell L0.out (b := b1) (cs := (txC t)) (t := 37) (by simp) 20 rfl
                          have k_xa := HR.cell L0.out (b := b1) (cs := (txC t)) (t := 37) (by simp) 21 rfl
                          have k_ya := HR.cell L0.out (b := b1) (cs := (txC t)) (t := 37) (by simp) 22 rfl
                          have k_ib := HR.cell L0.out (b := b1) (cs := (txC t)) (t := 37) (by simp) 23 rfl
                          have k_xb := HR.cell L0.out (b := b1) (cs := (txC t)) (t := 37) (by simp) 24 rfl
                          have k_yb := HR.cell L0.out (b := b1) (cs := (txC t)) (t := 37) (by simp) 25 rfl
                          have k_ic := HR.cell L0.out (b := b1) (cs := (txC t)) (t := 37) (by simp) 26 rfl
                          have k_xc := HR.cell L0.out (b := b1) (cs := (txC t)) (t := 37) (by simp) 27 rfl
                          have k_yc := HR.cell L0.out (b := b1) (cs := (txC t)) (t := 37) (by simp) 28 rfl
                          have k_gx := HR.cell L0.out (b := b1) (cs := (txC t)) (t := 37) (by simp) 29 rfl
                          have k_gy := HR.cell L0.out (b := b1) (cs := (txC t)) (t := 37) (by simp) 30 rfl
                          have k_gz := HR.cell L0.out (b := b1) (cs := (txC t)) (t := 37) (by simp) 31 rfl
                          go_wp2_with fail
                          refine (cB.out _).mono ?_
                          rintro e w4 ⟨rfl, hb4⟩
                          have L1 := Lib.hid (L0.out.next hb4)
                          clear k_ia k_xa k_ya k_ib k_xb k_yb k_ic k_xc k_yc k_gx k_gy k_gz
                          clear hb4
                          cases p2 : inPt t.ic t.xc t.yc
                          · rw [p2] at cC
                            have hM : Hid (mayB t = false) := Lib.hid (may_c4 (by unfold c4; simp [p0, p1, p2]))
                            replace p2 := Lib.hid p2
                            have k_ia := HR.cell L1.out (b := b1) (cs := (txC t)) (t := 37) (by simp) 20 rfl
                            have k_xa := HR.cell L1.out (b := b1) (cs := (txC t)) (t := 37) (by simp) 21 rfl
                            have k_ya := HR.cell L1.out (b := b1) (cs := (txC t)) (t := 37) (by simp) 22 rfl
                            have k_ib := HR.cell L1.out (b := b1) (cs := (txC t)) (t := 37) (by simp) 23 rfl
                            have k_xb := HR.cell L1.out (b := b1) (cs := (txC t)) (t := 37) (by simp) 24 rfl
                            have k_yb := HR.cell L1.out (b := b1) (cs := (txC t)) (t := 37) (by simp) 25 rfl
                            have k_ic := HR.cell L1.out (b := b1) (cs := (txC t)) (t := 37) (by simp) 26 rfl
                            have k_xc := HR.cell L1.out (b := b1) (cs := (txC t)) (t := 37) (by simp) 27 rfl
                            have k_yc := HR.cell L1.out (b := b1) (cs := (txC t)) (t := 37) (by simp) 28 rfl
                            have k_gx := HR.cell L1.out (b := b1) (cs := (txC t)) (t := 37) (by simp) 29 rfl
                            have k_gy := HR.cell L1.out (b := b1) (cs := (txC t)) (t := 37) (by simp) 30 rfl
                            have k_gz := HR.cell L1.out (b := b1) (cs := (txC t)) (t := 37) (by simp) 31 rfl
                            go_wp2_with fail
                            refine (cC.out _).mono ?_
                            rintro e w5 ⟨rfl, hb5⟩
                            have L2 := Lib.hid (L1.out.next hb5)
                            clear k_ia k_xa k_ya k_ib k_xb k_yb k_ic k_xc k_yc k_gx k_gy k_gz
                            clear hb5
                            have k_ia := HR.cell L2.out (b := b1) (cs := (txC t)) (t := 37) (by simp) 20 rfl
                            have k_xa := HR.cell L2.out (b := b1) (cs := (txC t)) (t := 37) (by simp) 21 rfl
                            have k_ya := HR.cell L2.out (b := b1) (cs := (txC t)) (t := 37) (by simp) 22 rfl
                            have k_ib := HR.cell L2.out (b := b1) (cs := (txC t)) (t := 37) (by simp) 23 rfl
                            have k_xb := HR.cell L2.out (b := b1) (cs := (txC t)) (t := 37) (by simp) 24 rfl
                            have k_yb := HR.cell L2.out (b := b1) (cs := (txC t)) (t := 37) (by simp) 25 rfl
                            have k_ic := HR.cell L2.out (b := b1) (cs := (txC t)) (t := 37) (by simp) 26 rfl
                            have k_xc := HR.cell L2.out (b := b1) (cs := (txC t)) (t := 37) (by simp) 27 rfl
                            have k_yc := HR.cell L2.out (b := b1) (cs := (txC t)) (t := 37) (by simp) 28 rfl
                            have k_gx := HR.cell L2.out (b := b1) (cs := (txC t)) (t := 37) (by simp) 29 rfl
                            have k_gy := HR.cell L2.out (b := b1) (cs := (txC t)) (t := 37) (by simp) 30 rfl
                            have k_gz := HR.cell L2.out (b := b1) (cs := (txC t)) (t := 37) (by simp) 31 rfl
                            go_wp2_with fail
                            go_ret
                            exact ⟨by rw [hM.out]; rfl, L2.out.2⟩
                          · rw [p2] at cC
                            replace p2 := Lib.hid p2
                            have k_ia := HR.cell L1.out (b := b1) (cs := (txC t)) (t := 37) (by simp) 20 rfl
                            have k_xa := HR.cell L1.out (b := b1) (cs := (txC t)) (t := 37) (by simp) 21 rfl
                            have k_ya := HR.cell L1.out (b := b1) (cs := (txC t)) (t := 37) (by simp) 22 rfl
                            have k_ib := HR.cell L1.out (b := b1) (cs := (txC t)) (t := 37) (by simp) 23 rfl
                            have k_xb := HR.cell L1.out (b := b1) (cs := (txC t)) (t := 37) (by simp) 24 rfl
                            have k_yb := HR.cell L1.out (b := b1) (cs := (txC t)) (t := 37) (by simp) 25 rfl
                            have k_ic := HR.cell L1.out (b := b1) (cs := (txC t)) (t := 37) (by simp) 26 rfl
                            have k_xc := HR.cell L1.out (b := b1) (cs := (txC t)) (t := 37) (by simp) 27 rfl
                            have k_yc := HR.cell L1.out (b := b1) (cs := (txC t)) (t := 37) (by simp) 28 rfl
                            have k_gx := HR.cell L1.out (b := b1) (cs := (txC t)) (t := 37) (by simp) 29 rfl
                            have k_gy := HR.cell L1.out (b := b1) (cs := (txC t)) (t := 37) (by simp) 30 rfl
                            have k_gz := HR.cell L1.out (b := b1) (cs := (txC t)) (t := 37) (by simp) 31 rfl
                            go_wp2_with fail
                            refine (cC.out _).mono ?_
                            rintro e w5 ⟨rfl, hb5⟩
                            have L2 := Lib.hid (L1.out.next hb5)
                            clear k_ia k_xa k_ya k_ib k_xb k_yb k_ic k_xc k_yc k_gx k_gy k_gz
                            clear hb5
                            cases p3 : inN (t.gx.toNat, t.gy.toNat)
                            · rw [p3] at cG
                              have hM : Hid (mayB t = false) := Lib.hid (may_c4 (by unfold c4; simp [p0, p1, p2, p3]))
                              replace p3 := Lib.hid p3
                              have k_ia := HR.cell L2.out (b := b1) (cs := (txC t)) (t := 37) (by simp) 20 rfl
                              have k_xa := HR.cell L2.out (b := b1) (cs := (txC t)) (t := 37) (by simp) 21 rfl
                              have k_ya := HR.cell L2.out (b := b1) (cs := (txC t)) (t := 37) (by simp) 22 rfl
                              have k_ib := HR.cell L2.out (b := b1) (cs := (txC t)) (t := 37) (by simp) 23 rfl
                              have k_xb := HR.cell L2.out (b := b1) (cs := (txC t)) (t := 37) (by simp) 24 rfl
                              have k_yb := HR.cell L2.out (b := b1) (cs := (txC t)) (t := 37) (by simp) 25 rfl
                              have k_ic := HR.cell L2.out (b := b1) (cs := (txC t)) (t := 37) (by simp) 26 rfl
                              have k_xc := HR.cell L2.out (b := b1) (cs := (txC t)) (t := 37) (by simp) 27 rfl
                              have k_yc := HR.cell L2.out (b := b1) (cs := (txC t)) (t := 37) (by simp) 28 rfl
                              have k_gx := HR.cell L2.out (b := b1) (cs := (txC t)) (t := 37) (by simp) 29 rfl
                              have k_gy := HR.cell L2.out (b := b1) (cs := (txC t)) (t := 37) (by simp) 30 rfl
                              have k_gz := HR.cell L2.out (b := b1) (cs := (txC t)) (t := 37) (by simp) 31 rfl
                              go_wp2_with fail
                              refine (cG.out _).mono ?_
                              rintro e w6 ⟨rfl, hb6⟩
                              have L3 := Lib.hid (L2.out.next hb6)
                              clear k_ia k_xa k_ya k_ib k_xb k_yb k_ic k_xc k_yc k_gx k_gy k_gz
                              clear hb6
                              have k_ia := HR.cell L3.out (b := b1) (cs := (txC t)) (t := 37) (by simp) 20 rfl
                              have k_xa := HR.cell L3.out (b := b1) (cs := (txC t)) (t := 37) (by simp) 21 rfl
                              have k_ya := HR.cell L3.out (b := b1) (cs := (txC t)) (t := 37) (by simp) 22 rfl
                              have k_ib := HR.cell L3.out (b := b1) (cs := (txC t)) (t := 37) (by simp) 23 rfl
                              have k_xb := HR.cell L3.out (b := b1) (cs := (txC t)) (t := 37) (by simp) 24 rfl
                              have k_yb := HR.cell L3.out (b := b1) (cs := (txC t)) (t := 37) (by simp) 25 rfl
                              have k_ic := HR.cell L3.out (b := b1) (cs := (txC t)) (t := 37) (by simp) 26 rfl
                              have k_xc := HR.cell L3.out (b := b1) (cs := (txC t)) (t := 37) (by simp) 27 rfl
                              have k_yc := HR.cell L3.out (b := b1) (cs := (txC t)) (t := 37) (by simp) 28 rfl
                              have k_gx := HR.cell L3.out (b := b1) (cs := (txC t)) (t := 37) (by simp) 29 rfl
                              have k_gy := HR.cell L3.out (b := b1) (cs := (txC t)) (t := 37) (by simp) 30 rfl
                              have k_gz := HR.cell L3.out (b := b1) (cs := (txC t)) (t := 37) (by simp) 31 rfl
                              go_wp2_with fail
                              go_ret
                              exact ⟨by rw [hM.out]; rfl, L3.out.2⟩
                            · rw [p3] at cG
                              replace p3 := Lib.hid p3
                              have k_ia := HR.cell L2.out (b := b1) (cs := (txC t)) (t := 37) (by simp) 20 rfl
                              have k_xa := HR.cell L2.out (b := b1) (cs := (txC t)) (t := 37) (by simp) 21 rfl
                              have k_ya := HR.cell L2.out (b := b1) (cs := (txC t)) (t := 37) (by simp) 22 rfl
                              have k_ib := HR.cell L2.out (b := b1) (cs := (txC t)) (t := 37) (by simp) 23 rfl
                              have k_xb := HR.cell L2.out (b := b1) (cs := (txC t)) (t := 37) (by simp) 24 rfl
                              have k_yb := HR.cell L2.out (b := b1) (cs := (txC t)) (t := 37) (by simp) 25 rfl
                              have k_ic := HR.cell L2.out (b := b1) (cs := (txC t)) (t := 37) (by simp) 26 rfl
                              have k_xc := HR.cell L2.out (b := b1) (cs := (txC t)) (t := 37) (by simp) 27 rfl
                              have k_yc := HR.cell L2.out (b := b1) (cs := (txC t)) (t := 37) (by simp) 28 rfl
                              have k_gx := HR.cell L2.out (b := b1) (cs := (txC t)) (t := 37) (by simp) 29 rfl
                              have k_gy := HR.cell L2.out (b := b1) (cs := (txC t)) (t := 37) (by simp) 30 rfl
                              have k_gz := HR.cell L2.out (b := b1) (cs := (txC t)) (t := 37) (by simp) 31 rfl
                              go_wp2_with fail
                              refine (cG.out _).mono ?_
                              rintro e w6 ⟨rfl, hb6⟩
                              have L3 := Lib.hid (L2.out.next hb6)
                              clear k_ia k_xa k_ya k_ib k_xb k_yb k_ic k_xc k_yc k_gx k_gy k_gz
                              clear hb6
                              have k_ia := HR.cell L3.out (b := b1) (cs := (txC t)) (t := 37) (by simp) 20 rfl
                              have k_xa := HR.cell L3.out (b := b1) (cs := (txC t)) (t := 37) (by simp) 21 rfl
                              have k_ya := HR.cell L3.out (b := b1) (cs := (txC t)) (t := 37) (by simp) 22 rfl
                              have k_ib := HR.cell L3.out (b := b1) (cs := (txC t)) (t := 37) (by simp) 23 rfl
                              have k_xb := HR.cell L3.out (b := b1) (cs := (txC t)) (t := 37) (by simp) 24 rfl
                              have k_yb := HR.cell L3.out (b := b1) (cs := (txC t)) (t := 37) (by simp) 25 rfl
                              have k_ic := HR.cell L3.out (b := b1) (cs := (txC t)) (t := 37) (by simp) 26 rfl
                              have k_xc := HR.cell L3.out (b := b1) (cs := (txC t)) (t := 37) (by simp) 27 rfl
                              have k_yc := HR.cell L3.out (b := b1) (cs := (txC t)) (t := 37) (by simp) 28 rfl
                              have k_gx := HR.cell L3.out (b := b1) (cs := (txC t)) (t := 37) (by simp) 29 rfl
                              have k_gy := HR.cell L3.out (b := b1) (cs := (txC t)) (t := 37) (by simp) 30 rfl
                              have k_gz := HR.cell L3.out (b := b1) (cs := (txC t)) (t := 37) (by simp) 31 rfl
                              by_cases p4 : 72057593894066549 ≤ t.gz
                              · have d4 : decide (72057593894066549 ≤ t.gz) = true := decide_eq_true p4
                                have hM : Hid (mayB t = false) := Lib.hid (may_c4 (by unfold c4; simp [show ¬ t.gz < 72057593894066549 by omega]))
                                go_wp2_with fail
                                go_ret
                                exact ⟨by rw [hM.out]; rfl, L3.out.2⟩
                              · have d4 : decide (72057593894066549 ≤ t.gz) = false := decide_eq_false p4
                                have h6 : c4 t = true := by unfold c4; simp [p0.out, p1.out, p2.out, p3.out, show t.gz < 72057593894066549 by omega]
                                have hM0 := Lib.hid (may_all hok.out (by have := P1.out.1; omega) (by have := P1.out.2.1; omega) (by have := P1.out.2.2.1; omega) (by have := P1.out.2.2.2; omega) hP.out h5.out h6)
                                clear h6
                                go_upto_region 15 with fail
                                clear k_ia k_xa k_ya k_ib k_xb k_yb k_ic k_xc k_yc k_gx k_gy k_gz
                                clear d4 p4
                                cases g1 : (t.inn == 0)
                                · have g1n : (t.inn != 0) = true := by unfold bne; rw [g1]; rfl
                                  have hM : Hid (mayB t = true) := Lib.hid (by rw [hM0.out]; unfold c5; simp [g1])
                                  refine wp_region_noPanic ?_
                                  refine wp_region_held_drew (S := fun wq => wq.cell? ⟨b1, 1, none⟩ = some (.int .u64 t.inn) ∧ wq.cell? ⟨b1, 7, none⟩ = some (.int .u64 t.seq) ∧ wq.cell? ⟨b1, 29, none⟩ = some (.int .u64 t.gx) ∧ wq.cell? ⟨b1, 30, none⟩ = some (.int .u64 t.gy) ∧ wq.cell? ⟨b1, 31, none⟩ = some (.int .u64 t.gz) ∧ HR w wq [(b1, (txC t), 37)]) (by kernel_rfl) ?_ (fun hHeld => ?_)
                                  · have hq0 := HR.drew L3.out
                                    exact ⟨HR.cell hq0 (b := b1) (cs := (txC t)) (t := 37) (by simp) 1 rfl, HR.cell hq0 (b := b1) (cs := (txC t)) (t := 37) (by simp) 7 rfl, HR.cell hq0 (b := b1) (cs := (txC t)) (t := 37) (by simp) 29 rfl, HR.cell hq0 (b := b1) (cs := (txC t)) (t := 37) (by simp) 30 rfl, HR.cell hq0 (b := b1) (cs := (txC t)) (t := 37) (by simp) 31 rfl, hq0⟩
                                  refine tk 0 hHeld ?_; refine tk 1 hHeld ?_; refine tk 2 hHeld ?_; refine tk 3 hHeld ?_; refine sk 4 hHeld ?_; refine sk 5 hHeld ?_; refine sk 6 hHeld ?_; refine sk 7 hHeld ?_; refine sk 8 hHeld ?_; refine sk 9 hHeld ?_; refine sk 10 hHeld ?_; refine sk 11 hHeld ?_; refine sk 12 hHeld ?_; refine sk 13 hHeld ?_; refine sk 14 hHeld ?_; refine sk 15 hHeld ?_; refine sk 16 hHeld ?_; refine sk 17 hHeld ?_; refine sk 18 hHeld ?_; refine sk 19 hHeld ?_; refine tk 20 hHeld ?_; refine tk 21 hHeld ?_
                                  refine wpAnyH_done (by kernel_rfl) (NoPanic.normal ?_) _
                                  have hL := Lib.hid hHeld.2.2.2.2.2.2
                                  clear hHeld
                                  go_wp2_with fail
                                  go_ret
                                  exact ⟨by rw [hM.out]; rfl, hL.out⟩
                                · have g1n : (t.inn != 0) = false := by unfold bne; rw [g1]; rfl
                                  cases g2 : (t.seq == 0)
                                  · have g2n : (t.seq != 0) = true := by unfold bne; rw [g2]; rfl
                                    have hM : Hid (mayB t = false) := Lib.hid (by rw [hM0.out]; unfold c5; simp [g1, g2n])
                                    refine wp_region_noPanic ?_
                                    refine wp_region_held_drew (S := fun wq => wq.cell? ⟨b1, 1, none⟩ = some (.int .u64 t.inn) ∧ wq.cell? ⟨b1, 7, none⟩ = some (.int .u64 t.seq) ∧ wq.cell? ⟨b1, 29, none⟩ = some (.int .u64 t.gx) ∧ wq.cell? ⟨b1, 30, none⟩ = some (.int .u64 t.gy) ∧ wq.cell? ⟨b1, 31, none⟩ = some (.int .u64 t.gz) ∧ HR w wq [(b1, (txC t), 37)]) (by kernel_rfl) ?_ (fun hHeld => ?_)
                                    · have hq0 := HR.drew L3.out
                                      exact ⟨HR.cell hq0 (b := b1) (cs := (txC t)) (t := 37) (by simp) 1 rfl, HR.cell hq0 (b := b1) (cs := (txC t)) (t := 37) (by simp) 7 rfl, HR.cell hq0 (b := b1) (cs := (txC t)) (t := 37) (by simp) 29 rfl, HR.cell hq0 (b := b1) (cs := (txC t)) (t := 37) (by simp) 30 rfl, HR.cell hq0 (b := b1) (cs := (txC t)) (t := 37) (by simp) 31 rfl, hq0⟩
                                    refine tk 0 hHeld ?_; refine tk 1 hHeld ?_; refine tk 2 hHeld ?_; refine tk 3 hHeld ?_; refine tk 4 hHeld ?_; refine tk 5 hHeld ?_; refine tk 6 hHeld ?_; refine tk 7 hHeld ?_; refine sk 8 hHeld ?_; refine sk 9 hHeld ?_; refine sk 10 hHeld ?_; refine sk 11 hHeld ?_; refine sk 12 hHeld ?_; refine tk 13 hHeld ?_; refine tk 14 hHeld ?_; refine sk 15 hHeld ?_; refine sk 16 hHeld ?_; refine sk 17 hHeld ?_; refine sk 18 hHeld ?_; refine tk 19 hHeld ?_; refine tk 20 hHeld ?_; refine tk 21 hHeld ?_
                                    refine wpAnyH_done (by kernel_rfl) (NoPanic.normal ?_) _
                                    have hL := Lib.hid hHeld.2.2.2.2.2.2
                                    clear hHeld
                                    go_wp2_with fail
                                    go_ret
                                    exact ⟨by rw [hM.out]; rfl, hL.out⟩
                                  · have g2n : (t.seq != 0) = false := by unfold bne; rw [g2]; rfl
                                    cases q7 : zeroB t.gx t.gy
                                    · have hs : Hid ((t.gx == 0 && (t.gy == 1 && t.gz == 0)) = false) := Lib.hid (by unfold zeroB at q7; rw [← Bool.and_assoc, q7, Bool.false_and])
                                      have hM : Hid (mayB t = false) := Lib.hid (by rw [hM0.out]; unfold c5; simp [g1, g2n, hs.out])
                                      refine wp_region_noPanic ?_
                                      refine wp_region_held_drew (S := fun wq => wq.cell? ⟨b1, 1, none⟩ = some (.int .u64 t.inn) ∧ wq.cell? ⟨b1, 7, none⟩ = some (.int .u64 t.seq) ∧ wq.cell? ⟨b1, 29, none⟩ = some (.int .u64 t.gx) ∧ wq.cell? ⟨b1, 30, none⟩ = some (.int .u64 t.gy) ∧ wq.cell? ⟨b1, 31, none⟩ = some (.int .u64 t.gz) ∧ HR w wq [(b1, (txC t), 37)]) (by kernel_rfl) ?_ (fun hHeld => ?_)
                                      · have hq0 := HR.drew L3.out
                                        exact ⟨HR.cell hq0 (b := b1) (cs := (txC t)) (t := 37) (by simp) 1 rfl, HR.cell hq0 (b := b1) (cs := (txC t)) (t := 37) (by simp) 7 rfl, HR.cell hq0 (b := b1) (cs := (txC t)) (t := 37) (by simp) 29 rfl, HR.cell hq0 (b := b1) (cs := (txC t)) (t := 37) (by simp) 30 rfl, HR.cell hq0 (b := b1) (cs := (txC t)) (t := 37) (by simp) 31 rfl, hq0⟩
                                      refine tk 0 hHeld ?_; refine tk 1 hHeld ?_; refine tk 2 hHeld ?_; refine tk 3 hHeld ?_; refine tk 4 hHeld ?_; refine tk 5 hHeld ?_; refine tk 6 hHeld ?_; refine tk 7 hHeld ?_; refine tk 8 hHeld ?_; refine tk 9 hHeld ?_; refine tk 10 hHeld ?_
                                      refine stepH 11 (by kernel_rfl) rfl (by rfl) (fun K hK => ?_)
                                      go_simp
                                      refine (zZero _).mono ?_
                                      rintro e wc1 ⟨rfl, hbc1⟩
                                      have hrc1 := HR.next hHeld.2.2.2.2.2 hbc1
                                      refine hK.out _ _ ?_ (fun hHeld => ?_)
                                      · exact ⟨HR.cell hrc1 (b := b1) (cs := (txC t)) (t := 37) (by simp) 1 rfl, HR.cell hrc1 (b := b1) (cs := (txC t)) (t := 37) (by simp) 7 rfl, HR.cell hrc1 (b := b1) (cs := (txC t)) (t := 37) (by simp) 29 rfl, HR.cell hrc1 (b := b1) (cs := (txC t)) (t := 37) (by simp) 30 rfl, HR.cell hrc1 (b := b1) (cs := (txC t)) (t := 37) (by simp) 31 rfl, hrc1⟩
                                      clear hK K
                                      try simp only [Act.put, List.setIfInBounds_toArray, List.set_cons_zero, List.set_cons_succ]
                                      refine takeH 12 (fun _ _ _ _ _ h => h) (by kernel_rfl) hHeld rfl (by kernel_rfl) (by rfl) (v := .bool false) ?_ ?_
                                      · intro wz hz
                                        (try dsimp only at hz)
                                        go_simp
                                        first | exact zeroB_no q7 | exact (zero_if _ _ _).trans (by rw [q7])
                                      try simp only [Act.put, List.setIfInBounds_toArray, List.set_cons_zero, List.set_cons_succ]
                                      refine tk 13 hHeld ?_; refine tk 14 hHeld ?_; refine sk 15 hHeld ?_; refine sk 16 hHeld ?_; refine sk 17 hHeld ?_; refine sk 18 hHeld ?_; refine tk 19 hHeld ?_; refine tk 20 hHeld ?_; refine tk 21 hHeld ?_
                                      refine wpAnyH_done (by kernel_rfl) (NoPanic.normal ?_) _
                                      have hL := Lib.hid hHeld.2.2.2.2.2.2
                                      clear hHeld
                                      go_wp2_with fail
                                      go_ret
                                      exact ⟨by rw [hM.out]; rfl, hL.out⟩
                                    · cases g3 : (t.gz == 0)
                                      · have hs : Hid ((t.gx == 0 && (t.gy == 1 && t.gz == 0)) = false) := Lib.hid (by rw [g3, Bool.and_false, Bool.and_false])
                                        have hM : Hid (mayB t = false) := Lib.hid (by rw [hM0.out]; unfold c5; simp [g1, g2n, hs.out])
                                        refine wp_region_noPanic ?_
                                        refine wp_region_held_drew (S := fun wq => wq.cell? ⟨b1, 1, none⟩ = some (.int .u64 t.inn) ∧ wq.cell? ⟨b1, 7, none⟩ = some (.int .u64 t.seq) ∧ wq.cell? ⟨b1, 29, none⟩ = some (.int .u64 t.gx) ∧ wq.cell? ⟨b1, 30, none⟩ = some (.int .u64 t.gy) ∧ wq.cell? ⟨b1, 31, none⟩ = some (.int .u64 t.gz) ∧ HR w wq [(b1, (txC t), 37)]) (by kernel_rfl) ?_ (fun hHeld => ?_)
                                        · have hq0 := HR.drew L3.out
                                          exact ⟨HR.cell hq0 (b := b1) (cs := (txC t)) (t := 37) (by simp) 1 rfl, HR.cell hq0 (b := b1) (cs := (txC t)) (t := 37) (by simp) 7 rfl, HR.cell hq0 (b := b1) (cs := (txC t)) (t := 37) (by simp) 29 rfl, HR.cell hq0 (b := b1) (cs := (txC t)) (t := 37) (by simp) 30 rfl, HR.cell hq0 (b := b1) (cs := (txC t)) (t := 37) (by simp) 31 rfl, hq0⟩
                                        refine tk 0 hHeld ?_; refine tk 1 hHeld ?_; refine tk 2 hHeld ?_; refine tk 3 hHeld ?_; refine tk 4 hHeld ?_; refine tk 5 hHeld ?_; refine tk 6 hHeld ?_; refine tk 7 hHeld ?_; refine tk 8 hHeld ?_; refine tk 9 hHeld ?_; refine tk 10 hHeld ?_
                                        refine stepH 11 (by kernel_rfl) rfl (by rfl) (fun K hK => ?_)
                                        go_simp
                                        refine (zZero _).mono ?_
                                        rintro e wc1 ⟨rfl, hbc1⟩
                                        have hrc1 := HR.next hHeld.2.2.2.2.2 hbc1
                                        refine hK.out _ _ ?_ (fun hHeld => ?_)
                                        · exact ⟨HR.cell hrc1 (b := b1) (cs := (txC t)) (t := 37) (by simp) 1 rfl, HR.cell hrc1 (b := b1) (cs := (txC t)) (t := 37) (by simp) 7 rfl, HR.cell hrc1 (b := b1) (cs := (txC t)) (t := 37) (by simp) 29 rfl, HR.cell hrc1 (b := b1) (cs := (txC t)) (t := 37) (by simp) 30 rfl, HR.cell hrc1 (b := b1) (cs := (txC t)) (t := 37) (by simp) 31 rfl, hrc1⟩
                                        clear hK K
                                        try simp only [Act.put, List.setIfInBounds_toArray, List.set_cons_zero, List.set_cons_succ]
                                        refine takeH 12 (fun _ _ _ _ _ h => h) (by kernel_rfl) hHeld rfl (by kernel_rfl) (by rfl) (v := .bool true) ?_ ?_
                                        · intro wz hz
                                          (try dsimp only at hz)
                                          go_simp
                                          exact (zero_if _ _ _).trans (by rw [q7])
                                        try simp only [Act.put, List.setIfInBounds_toArray, List.set_cons_zero, List.set_cons_succ]
                                        refine tk 13 hHeld ?_; refine tk 14 hHeld ?_; refine tk 15 hHeld ?_; refine tk 16 hHeld ?_; refine tk 17 hHeld ?_; refine tk 18 hHeld ?_; refine tk 19 hHeld ?_; refine tk 20 hHeld ?_; refine tk 21 hHeld ?_
                                        refine wpAnyH_done (by kernel_rfl) (NoPanic.normal ?_) _
                                        have hL := Lib.hid hHeld.2.2.2.2.2.2
                                        clear hHeld
                                        go_wp2_with fail
                                        go_ret
                                        exact ⟨by rw [hM.out]; rfl, hL.out⟩
                                      · have hs : Hid ((t.gx == 0 && (t.gy == 1 && t.gz == 0)) = true) := Lib.hid (by unfold zeroB at q7; rw [← Bool.and_assoc, q7, g3]; rfl)
                                        have hM : Hid (mayB t = true) := Lib.hid (by rw [hM0.out]; unfold c5; simp [g1, g2n, hs.out])
                                        refine wp_region_noPanic ?_
                                        refine wp_region_held_drew (S := fun wq => wq.cell? ⟨b1, 1, none⟩ = some (.int .u64 t.inn) ∧ wq.cell? ⟨b1, 7, none⟩ = some (.int .u64 t.seq) ∧ wq.cell? ⟨b1, 29, none⟩ = some (.int .u64 t.gx) ∧ wq.cell? ⟨b1, 30, none⟩ = some (.int .u64 t.gy) ∧ wq.cell? ⟨b1, 31, none⟩ = some (.int .u64 t.gz) ∧ HR w wq [(b1, (txC t), 37)]) (by kernel_rfl) ?_ (fun hHeld => ?_)
                                        · have hq0 := HR.drew L3.out
                                          exact ⟨HR.cell hq0 (b := b1) (cs := (txC t)) (t := 37) (by simp) 1 rfl, HR.cell hq0 (b := b1) (cs := (txC t)) (t := 37) (by simp) 7 rfl, HR.cell hq0 (b := b1) (cs := (txC t)) (t := 37) (by simp) 29 rfl, HR.cell hq0 (b := b1) (cs := (txC t)) (t := 37) (by simp) 30 rfl, HR.cell hq0 (b := b1) (cs := (txC t)) (t := 37) (by simp) 31 rfl, hq0⟩
                                        refine tk 0 hHeld ?_; refine tk 1 hHeld ?_; refine tk 2 hHeld ?_; refine tk 3 hHeld ?_; refine tk 4 hHeld ?_; refine tk 5 hHeld ?_; refine tk 6 hHeld ?_; refine tk 7 hHeld ?_; refine tk 8 hHeld ?_; refine tk 9 hHeld ?_; refine tk 10 hHeld ?_
                                        refine stepH 11 (by kernel_rfl) rfl (by rfl) (fun K hK => ?_)
                                        go_simp
                                        refine (zZero _).mono ?_
                                        rintro e wc1 ⟨rfl, hbc1⟩
                                        have hrc1 := HR.next hHeld.2.2.2.2.2 hbc1
                                        refine hK.out _ _ ?_ (fun hHeld => ?_)
                                        · exact ⟨HR.cell hrc1 (b := b1) (cs := (txC t)) (t := 37) (by simp) 1 rfl, HR.cell hrc1 (b := b1) (cs := (txC t)) (t := 37) (by simp) 7 rfl, HR.cell hrc1 (b := b1) (cs := (txC t)) (t := 37) (by simp) 29 rfl, HR.cell hrc1 (b := b1) (cs := (txC t)) (t := 37) (by simp) 30 rfl, HR.cell hrc1 (b := b1) (cs := (txC t)) (t := 37) (by simp) 31 rfl, hrc1⟩
                                        clear hK K
                                        try simp only [Act.put, List.setIfInBounds_toArray, List.set_cons_zero, List.set_cons_succ]
                                        refine takeH 12 (fun _ _ _ _ _ h => h) (by kernel_rfl) hHeld rfl (by kernel_rfl) (by rfl) (v := .bool true) ?_ ?_
                                        · intro wz hz
                                          (try dsimp only at hz)
                                          go_simp
                                          exact (zero_if _ _ _).trans (by rw [q7])
                                        try simp only [Act.put, List.setIfInBounds_toArray, List.set_cons_zero, List.set_cons_succ]
                                        refine tk 13 hHeld ?_; refine tk 14 hHeld ?_; refine tk 15 hHeld ?_; refine tk 16 hHeld ?_; refine tk 17 hHeld ?_; refine tk 18 hHeld ?_; refine tk 19 hHeld ?_; refine tk 20 hHeld ?_; refine tk 21 hHeld ?_
                                        refine wpAnyH_done (by kernel_rfl) (NoPanic.normal ?_) _
                                        have hL := Lib.hid hHeld.2.2.2.2.2.2
                                        clear hHeld
                                        go_wp2_with fail
                                        go_ret
                                        exact ⟨by rw [hM.out]; rfl, hL.out⟩

end Go.Proofs.Ytkfimfjjmdjbdaa
