import Derived.Test.YtkfimfjjmdjbdaaUh
set_option linter.unusedVariables false
set_option linter.unusedSimpArgs false
set_option linter.unusedSectionVars false
/- Walks: package tx: whether a transaction may be. -/
namespace Go.Proofs.Ytkfimfjjmdjbdaa
open Go.RowKit
set_option linter.unusedVariables false

set_option maxRecDepth 100000 in
set_option maxHeartbeats 100000000 in
theorem tCheckB (t : TxD) (h : TxOk t) (h1 : c1 t = true) (h2 : c2 t = true) (h3 : okJ t true 2 = false) (w : World) : Calls Try.prog 9 #[txV t] w (ChkSaid false w) := by
  go_enter Try.func9, Try.ntmps9
  go_upto_region 1 with fail
  have H0 := (HR.refl w).new (txC t) 37
  have hlt1 := H0.lt (b := w.heap.size) (cs := (txC t)) (t := 37) (by simp)
  generalize w.alloc (.cells (txC t) 37) = w2 at H0 hlt1 ⊢
  generalize hb1 : w.heap.size = b1 at H0 hlt1 ⊢
  have hbs : Hid (w.heap.size = b1 ∧ b1 < w2.heap.size) := Lib.hid ⟨hb1, hlt1⟩
  have H1 : Hid (HR w w2 [(b1, (txC t), 37)]) := Lib.hid H0
  clear hb1 H0 hlt1
  have hC1 := Lib.hid h1
  have hC2 := Lib.hid h2
  have hC3 := Lib.hid h3
  clear h1 h2 h3
  have hok := Lib.hid h
  clear h
  refine wp_region_noPanic ?_
  refine wp_region_held_drew (S := fun wq => wq.cell? ⟨b1, 0, none⟩ = some (.int .u64 t.root) ∧ HR w wq [(b1, (txC t), 37)]) (by kernel_rfl) ?_ (fun hHeld => ?_)
  · have hq0 := HR.drew H1.out
    exact ⟨HR.cell hq0 (b := b1) (cs := (txC t)) (t := 37) (by simp) 0 rfl, hq0⟩
  refine tk 0 hHeld ?_; refine tk 1 hHeld ?_; refine tk 3 hHeld ?_; refine tk 4 hHeld ?_; refine tk 5 hHeld ?_; refine tk 6 hHeld ?_; refine tk 7 hHeld ?_; refine tk 8 hHeld ?_
  refine stepH 2 (by kernel_rfl) rfl (by rfl) (fun K hK => ?_)
  go_simp
  refine hK.out _ _ ?_ (fun hHeld => ?_)
  · exact ⟨HR.cell (HR.alloc hHeld.2 _) (b := b1) (cs := (txC t)) (t := 37) (by simp) 0 rfl, (HR.alloc hHeld.2 _)⟩
  clear hK K
  try simp only [Act.put, List.setIfInBounds_toArray, List.set_cons_zero, List.set_cons_succ]
  refine stepH 9 (by kernel_rfl) rfl (by rfl) (fun K hK => ?_)
  go_simp
  refine hK.out _ _ ?_ (fun hHeld => ?_)
  · exact ⟨HR.cell (HR.alloc hHeld.2 _) (b := b1) (cs := (txC t)) (t := 37) (by simp) 0 rfl, (HR.alloc hHeld.2 _)⟩
  clear hK K
  try simp only [Act.put, List.setIfInBounds_toArray, List.set_cons_zero, List.set_cons_succ]
  have hlt2 := hbs.out.2
  have cC0 := (uConcat (w2.heap.size + 1) 4 4 [⟨w2.heap.size, 0, 1, 1, [t.root.toNat]⟩, ⟨b1, 8, 2, 2, [t.e0.toNat, t.e1.toNat]⟩, ⟨b1, 10, 2, 2, [t.m0.toNat, t.m1.toNat]⟩, ⟨b1, 18, 2, 2, [t.a0.toNat, t.a1.toNat]⟩] rfl (by decide) ((w2.drew.alloc (.cells #[.int .u64 t.root] 22)).alloc (.cells #[.slice (some ⟨w2.heap.size, 0, none⟩) 1 1, .slice (some ⟨b1, 8, none⟩) 2 2, .slice (some ⟨b1, 10, none⟩) 2 2, .slice (some ⟨b1, 18, none⟩) 2 2] 57)) (by
    have h := Row.new (w2.drew.alloc (.cells #[.int .u64 t.root] 22)) #[.slice (some ⟨w2.heap.size, 0, none⟩) 1 1, .slice (some ⟨b1, 8, none⟩) 2 2, .slice (some ⟨b1, 10, none⟩) 2 2, .slice (some ⟨b1, 18, none⟩) 2 2] 57
    rw [World.size_alloc] at h
    exact h) (parts_ok t hok.out w _ b1 w2.heap.size (hHeld.2.row (by simp)) ((Row.new _ _ _).alloc _)) (show 0 < 7 by decide) (show 7 ≤ 1000 by decide))
  rw [show catL [⟨w2.heap.size, 0, 1, 1, [t.root.toNat]⟩, ⟨b1, 8, 2, 2, [t.e0.toNat, t.e1.toNat]⟩, ⟨b1, 10, 2, 2, [t.m0.toNat, t.m1.toNat]⟩, ⟨b1, 18, 2, 2, [t.a0.toNat, t.a1.toNat]⟩] = numsL t from rfl, show (numsL t).length = 7 from rfl] at cC0
  have cC := Lib.hid cC0
  clear cC0
  refine stepH 10 (by kernel_rfl) rfl (by rfl) (fun K hK => ?_)
  go_simp
  refine (cC.out).mono ?_
  rintro e wc1 ⟨g, c, rfl, hOU, hbc1⟩
  have hrc1 := HR.next hHeld.2 hbc1
  have hU := Lib.hid hOU
  refine hK.out _ _ ?_ (fun hHeld => ?_)
  · exact ⟨HR.cell hrc1 (b := b1) (cs := (txC t)) (t := 37) (by simp) 0 rfl, hrc1⟩
  clear hK K
  try simp only [Act.put, List.setIfInBounds_toArray, List.set_cons_zero, List.set_cons_succ]
  refine tk 11 hHeld ?_
  refine wpAnyH_done (by kernel_rfl) (NoPanic.normal ?_) _
  have H2 := Lib.hid hHeld.2
  have cF0 := uContains g 0 7 c (numsL t) rfl (by decide) _ hU.out.ul
  clear hHeld cC H1
  go_upto_region 2 with fail
  go_cut [4] (fun v wc => v = .bool (c1 t) ∧ Hid (HR w wc [(b1, (txC t), 37)]))
  case first =>
    obtain ⟨hA, h1, h2, h3⟩ := c1_parts hC1.out
    rw [hA] at cF0
    have d1 : decide (t.inn < 4294967296) = true := decide_eq_true h1
    have d2 : decide (t.out < 4294967296) = true := decide_eq_true h2
    have d3 : decide (t.seq ≤ 1125899906842624) = true := decide_eq_true h3
    have hR : Hid (c1 t = true) := Lib.hid (by unfold c1; simp [hA, h1, h2, h3])
    have cF := Lib.hid cF0
    clear cF0
    replace hA := Lib.hid hA
    have k_inn := HR.cell H2.out (b := b1) (cs := (txC t)) (t := 37) (by simp) 1 rfl
    have k_out := HR.cell H2.out (b := b1) (cs := (txC t)) (t := 37) (by simp) 2 rfl
    have k_seq := HR.cell H2.out (b := b1) (cs := (txC t)) (t := 37) (by simp) 7 rfl
    go_wp2_with (go_at_call 21; refine cF.out.mono ?_; rintro e w' ⟨rfl, rfl⟩)
    go_meet
    exact ⟨by rw [hR.out], H2⟩
  case rest =>
    clear cF0 H2 hU
    obtain ⟨rfl, H2⟩ := hcut
    rw [hC1.out]
    go_upto_region 3 with fail
    go_cut [4] (fun v wc => v = .bool true ∧ Hid (HR w wc [(b1, (txC t), 37)]))
    case first =>
      obtain ⟨q1, q2, q3, q4⟩ := c2_parts hC2.out
      have cA := Lib.hid (fun W => eIn t.fx t.fy hok.out.fx0 hok.out.fy0 W)
      have cB := Lib.hid (fun W => eIn t.tx t.ty hok.out.tx0 hok.out.ty0 W)
      rw [q1] at cA
      rw [q2] at cB
      replace q1 := Lib.hid q1
      replace q2 := Lib.hid q2
      refine wp_region_noPanic ?_
      refine wp_region_held_drew (S := fun wq => wq.cell? ⟨b1, 3, none⟩ = some (.int .u64 t.fx) ∧ wq.cell? ⟨b1, 4, none⟩ = some (.int .u64 t.fy) ∧ wq.cell? ⟨b1, 5, none⟩ = some (.int .u64 t.tx) ∧ wq.cell? ⟨b1, 6, none⟩ = some (.int .u64 t.ty) ∧ wq.cell? ⟨b1, 1, none⟩ = some (.int .u64 t.inn) ∧ wq.cell? ⟨b1, 2, none⟩ = some (.int .u64 t.out) ∧ HR w wq [(b1, (txC t), 37)]) (by kernel_rfl) ?_ (fun hHeld => ?_)
      · have hq0 := HR.drew H2.out
        exact ⟨HR.cell hq0 (b := b1) (cs := (txC t)) (t := 37) (by simp) 3 rfl, HR.cell hq0 (b := b1) (cs := (txC t)) (t := 37) (by simp) 4 rfl, HR.cell hq0 (b := b1) (cs := (txC t)) (t := 37) (by simp) 5 rfl, HR.cell hq0 (b := b1) (cs := (txC t)) (t := 37) (by simp) 6 rfl, HR.cell hq0 (b := b1) (cs := (txC t)) (t := 37) (by simp) 1 rfl, HR.cell hq0 (b := b1) (cs := (txC t)) (t := 37) (by simp) 2 rfl, hq0⟩
      refine tk 0 hHeld ?_; refine tk 1 hHeld ?_; refine tk 2 hHeld ?_; refine tk 3 hHeld ?_
      refine stepH 4 (by kernel_rfl) rfl (by rfl) (fun K hK => ?_)
      go_simp
      refine (cA.out _).mono ?_
      rintro e wc1 ⟨rfl, hbc1⟩
      have hrc1 := HR.next hHeld.2.2.2.2.2.2 hbc1
      refine hK.out _ _ ?_ (fun hHeld => ?_)
      · exact ⟨HR.cell hrc1 (b := b1) (cs := (txC t)) (t := 37) (by simp) 3 rfl, HR.cell hrc1 (b := b1) (cs := (txC t)) (t := 37) (by simp) 4 rfl, HR.cell hrc1 (b := b1) (cs := (txC t)) (t := 37) (by simp) 5 rfl, HR.cell hrc1 (b := b1) (cs := (txC t)) (t := 37) (by simp) 6 rfl, HR.cell hrc1 (b := b1) (cs := (txC t)) (t := 37) (by simp) 1 rfl, HR.cell hrc1 (b := b1) (cs := (txC t)) (t := 37) (by simp) 2 rfl, hrc1⟩
      clear hK K
      try simp only [Act.put, List.setIfInBounds_toArray, List.set_cons_zero, List.set_cons_succ]
      refine tk 5 hHeld ?_; refine tk 6 hHeld ?_; refine tk 7 hHeld ?_; refine tk 8 hHeld ?_
      refine stepH 9 (by kernel_rfl) rfl (by rfl) (fun K hK => ?_)
      go_simp
      refine (cB.out _).mono ?_
      rintro e wc2 ⟨rfl, hbc2⟩
      have hrc2 := HR.next hHeld.2.2.2.2.2.2 hbc2
      refine hK.out _ _ ?_ (fun hHeld => ?_)
      · exact ⟨HR.cell hrc2 (b := b1) (cs := (txC t)) (t := 37) (by simp) 3 rfl, HR.cell hrc2 (b := b1) (cs := (txC t)) (t := 37) (by simp) 4 rfl, HR.cell hrc2 (b := b1) (cs := (txC t)) (t := 37) (by simp) 5 rfl, HR.cell hrc2 (b := b1) (cs := (txC t)) (t := 37) (by simp) 6 rfl, HR.cell hrc2 (b := b1) (cs := (txC t)) (t := 37) (by simp) 1 rfl, HR.cell hrc2 (b := b1) (cs := (txC t)) (t := 37) (by simp) 2 rfl, hrc2⟩
      clear hK K
      try simp only [Act.put, List.setIfInBounds_toArray, List.set_cons_zero, List.set_cons_succ]
      refine tk 10 hHeld ?_; refine tk 11 hHeld ?_; refine tk 12 hHeld ?_; refine tk 13 hHeld ?_; refine tk 16 hHeld ?_; refine tk 17 hHeld ?_; refine tk 18 hHeld ?_
      refine stepH 14 (by kernel_rfl) rfl (by rfl) (fun K hK => ?_)
      go_simp
      refine (tZero _).mono ?_
      rintro e wc3 ⟨rfl, hbc3⟩
      have hrc3 := HR.next hHeld.2.2.2.2.2.2 hbc3
      refine hK.out _ _ ?_ (fun hHeld => ?_)
      · exact ⟨HR.cell hrc3 (b := b1) (cs := (txC t)) (t := 37) (by simp) 3 rfl, HR.cell hrc3 (b := b1) (cs := (txC t)) (t := 37) (by simp) 4 rfl, HR.cell hrc3 (b := b1) (cs := (txC t)) (t := 37) (by simp) 5 rfl, HR.cell hrc3 (b := b1) (cs := (txC t)) (t := 37) (by simp) 6 rfl, HR.cell hrc3 (b := b1) (cs := (txC t)) (t := 37) (by simp) 1 rfl, HR.cell hrc3 (b := b1) (cs := (txC t)) (t := 37) (by simp) 2 rfl, hrc3⟩
      clear hK K
      try simp only [Act.put, List.setIfInBounds_toArray, List.set_cons_zero, List.set_cons_succ]
      refine takeH 15 (fun _ _ _ _ _ h => h) (by kernel_rfl) hHeld rfl (by kernel_rfl) (by rfl) (v := .bool (zeroB t.fx t.fy)) ?_ ?_
      · intro wz hz
        (try dsimp only at hz)
        go_simp
        exact zero_if _ _ _
      try simp only [Act.put, List.setIfInBounds_toArray, List.set_cons_zero, List.set_cons_succ]
      refine takeH 19 (fun _ _ _ _ _ h => h) (by kernel_rfl) hHeld rfl (by kernel_rfl) (by rfl) (v := .bool true) ?_ ?_
      · intro wz hz
        (try dsimp only at hz)
        go_simp
        try rw [q3]
      try simp only [Act.put, List.setIfInBounds_toArray, List.set_cons_zero, List.set_cons_succ]
      refine tk 20 hHeld ?_; refine tk 21 hHeld ?_; refine tk 22 hHeld ?_; refine tk 23 hHeld ?_; refine tk 26 hHeld ?_; refine tk 27 hHeld ?_; refine tk 28 hHeld ?_
      refine stepH 24 (by kernel_rfl) rfl (by rfl) (fun K hK => ?_)
      go_simp
      refine (tZero _).mono ?_
      rintro e wc4 ⟨rfl, hbc4⟩
      have hrc4 := HR.next hHeld.2.2.2.2.2.2 hbc4
      refine hK.out _ _ ?_ (fun hHeld => ?_)
      · exact ⟨HR.cell hrc4 (b := b1) (cs := (txC t)) (t := 37) (by simp) 3 rfl, HR.cell hrc4 (b := b1) (cs := (txC t)) (t := 37) (by simp) 4 rfl, HR.cell hrc4 (b := b1) (cs := (txC t)) (t := 37) (by simp) 5 rfl, HR.cell hrc4 (b := b1) (cs := (txC t)) (t := 37) (by simp) 6 rfl, HR.cell hrc4 (b := b1) (cs := (txC t)) (t := 37) (by simp) 1 rfl, HR.cell hrc4 (b := b1) (cs := (txC t)) (t := 37) (by simp) 2 rfl, hrc4⟩
      clear hK K
      try simp only [Act.put, List.setIfInBounds_toArray, List.set_cons_zero, List.set_cons_succ]
      refine takeH 25 (fun _ _ _ _ _ h => h) (by kernel_rfl) hHeld rfl (by kernel_rfl) (by rfl) (v := .bool (zeroB t.tx t.ty)) ?_ ?_
      · intro wz hz
        (try dsimp only at hz)
        go_simp
        exact zero_if _ _ _
      try simp only [Act.put, List.setIfInBounds_toArray, List.set_cons_zero, List.set_cons_succ]
      refine takeH 29 (fun _ _ _ _ _ h => h) (by kernel_rfl) hHeld rfl (by kernel_rfl) (by rfl) (v := .bool true) ?_ ?_
      · intro wz hz
        (try dsimp only at hz)
        go_simp
        try rw [q4]
      try simp only [Act.put, List.setIfInBounds_toArray, List.set_cons_zero, List.set_cons_succ]
      refine tk 30 hHeld ?_; refine tk 31 hHeld ?_
      refine wpAnyH_done (by kernel_rfl) (NoPanic.normal ?_) _
      go_wp2_with fail
      go_meet
      exact ⟨rfl, Lib.hid hHeld.2.2.2.2.2.2⟩
    case rest =>
      clear H2
      obtain ⟨rfl, H2⟩ := hcut
      have k_n0x := HR.cell H2.out (b := b1) (cs := (txC t)) (t := 37) (by simp) 12 rfl
      have k_n0y := HR.cell H2.out (b := b1) (cs := (txC t)) (t := 37) (by simp) 13 rfl
      have k_S0 := HR.cell H2.out (b := b1) (cs := (txC t)) (t := 37) (by simp) 14 rfl
      have k_n1x := HR.cell H2.out (b := b1) (cs := (txC t)) (t := 37) (by simp) 15 rfl
      have k_n1y := HR.cell H2.out (b := b1) (cs := (txC t)) (t := 37) (by simp) 16 rfl
      have k_S1 := HR.cell H2.out (b := b1) (cs := (txC t)) (t := 37) (by simp) 17 rfl
      go_wp2_with fail
      clear k_n0x k_n0y k_S0 k_n1x k_n1y k_S1
      go_loopw [4, 69] (fun q1 q2 wr => ∃ (j : Nat) (b : Bool), j ≤ 2 ∧ q2 = .int .i64 (j : Int) ∧ q1 = .bool b ∧ Hid (b = okJ t true j) ∧ Hid (HR w wr [(b1, (txC t), 37)])) (fun _ q2 _ => (2 - intOf q2).toNat)
      case atStart => exact ⟨0, true, by omega, rfl, rfl, Lib.hid rfl, H2⟩
      case round =>
        clear H2
        obtain ⟨j, b, hj, rfl, rfl, hbj, H2⟩ := hrel
        rcases (by omega : j = 0 ∨ j = 1 ∨ j = 2) with rfl | rfl | rfl
        · have hix := idx_n0
          go_upto_region 7 with fail
          clear hix
          have H6a := H2.out.new #[.int .u64 t.n0x, .int .u64 t.n0y, .slice t.s0 t.l0 t.c0] 28
          generalize wr.alloc (.cells #[.int .u64 t.n0x, .int .u64 t.n0y, .slice t.s0 t.l0 t.c0] 28) = w6 at H6a ⊢
          generalize wr.heap.size = b6 at H6a ⊢
          have H6 := Lib.hid H6a
          clear H6a
          obtain rfl : b = true := hbj.out
          have cA := Lib.hid (fun W => eIn t.n0x t.n0y hok.out.n0x0 hok.out.n0y0 W)
          cases q1 : inN (t.n0x.toNat, t.n0y.toNat)
          · rw [q1] at cA
            have hR : Hid (c3 t.n0x t.n0y t.l0 = false) := Lib.hid (by unfold c3; simp [q1])
            replace q1 := Lib.hid q1
            have HB : Hid (false = okJ t true 1) := Lib.hid (by rw [show okJ t true 1 = (okJ t true 0 && c3 t.n0x t.n0y t.l0) from rfl, ← hbj.out, hR.out]; try rfl)
            refine wp_region_noPanic ?_
            refine wp_region_held_drew (S := fun wq => wq.cell? ⟨b6, 0, none⟩ = some (.int .u64 t.n0x) ∧ wq.cell? ⟨b6, 1, none⟩ = some (.int .u64 t.n0y) ∧ wq.cell? ⟨b6, 2, none⟩ = some (.slice t.s0 t.l0 t.c0) ∧ HR w wq [(b6, #[.int .u64 t.n0x, .int .u64 t.n0y, .slice t.s0 t.l0 t.c0], 28), (b1, (txC t), 37)]) (by kernel_rfl) ?_ (fun hHeld => ?_)
            · have hq0 := HR.drew H6.out
              exact ⟨HR.cell hq0 (b := b6) (cs := #[.int .u64 t.n0x, .int .u64 t.n0y, .slice t.s0 t.l0 t.c0]) (t := 28) (by simp) 0 rfl, HR.cell hq0 (b := b6) (cs := #[.int .u64 t.n0x, .int .u64 t.n0y, .slice t.s0 t.l0 t.c0]) (t := 28) (by simp) 1 rfl, HR.cell hq0 (b := b6) (cs := #[.int .u64 t.n0x, .int .u64 t.n0y, .slice t.s0 t.l0 t.c0]) (t := 28) (by simp) 2 rfl, hq0⟩
            refine tk 0 hHeld ?_; refine tk 1 hHeld ?_; refine tk 2 hHeld ?_; refine tk 3 hHeld ?_
            refine stepH 4 (by kernel_rfl) rfl (by rfl) (fun K hK => ?_)
            go_simp
            refine (cA.out _).mono ?_
            rintro e wc1 ⟨rfl, hbc1⟩
            have hrc1 := HR.next hHeld.2.2.2 hbc1
            refine hK.out _ _ ?_ (fun hHeld => ?_)
            · exact ⟨HR.cell hrc1 (b := b6) (cs := #[.int .u64 t.n0x, .int .u64 t.n0y, .slice t.s0 t.l0 t.c0]) (t := 28) (by simp) 0 rfl, HR.cell hrc1 (b := b6) (cs := #[.int .u64 t.n0x, .int .u64 t.n0y, .slice t.s0 t.l0 t.c0]) (t := 28) (by simp) 1 rfl, HR.cell hrc1 (b := b6) (cs := #[.int .u64 t.n0x, .int .u64 t.n0y, .slice t.s0 t.l0 t.c0]) (t := 28) (by simp) 2 rfl, hrc1⟩
            clear hK K
            try simp only [Act.put, List.setIfInBounds_toArray, List.set_cons_zero, List.set_cons_succ]
            refine tk 5 hHeld ?_; refine tk 6 hHeld ?_; refine sk 7 hHeld ?_; refine sk 8 hHeld ?_; refine sk 9 hHeld ?_; refine sk 10 hHeld ?_; refine tk 11 hHeld ?_; refine tk 12 hHeld ?_; refine sk 13 hHeld ?_; refine sk 14 hHeld ?_; refine sk 15 hHeld ?_; refine sk 16 hHeld ?_; refine tk 17 hHeld ?_; refine tk 18 hHeld ?_
            refine wpAnyH_done (by kernel_rfl) (NoPanic.normal ?_) _
            have H7 := Lib.hid (HR.sub (qs := [(b1, (txC t), 37)]) hHeld.2.2.2 (by simp))
            clear hHeld H6 H2
            go_wp2_with fail
            go_roundw
            case rel => exact ⟨1, _, by omega, rfl, rfl, HB, H7⟩
            case measure => simp [intOf]
          · rw [q1] at cA
            cases q2 : zeroB t.n0x t.n0y
            · by_cases q3 : t.l0 = 32
              · have hl : ((t.l0 : Int) == 32) = true := beq_iff_eq.2 (by omega)
                have hR : Hid (c3 t.n0x t.n0y t.l0 = true) := Lib.hid (by unfold c3; simp [q1, q2, q3])
                replace q1 := Lib.hid q1
                replace q3 := Lib.hid q3
                have HB : Hid (true = okJ t true 1) := Lib.hid (by rw [show okJ t true 1 = (okJ t true 0 && c3 t.n0x t.n0y t.l0) from rfl, ← hbj.out, hR.out]; try rfl)
                refine wp_region_noPanic ?_
                refine wp_region_held_drew (S := fun wq => wq.cell? ⟨b6, 0, none⟩ = some (.int .u64 t.n0x) ∧ wq.cell? ⟨b6, 1, none⟩ = some (.int .u64 t.n0y) ∧ wq.cell? ⟨b6, 2, none⟩ = some (.slice t.s0 t.l0 t.c0) ∧ HR w wq [(b6, #[.int .u64 t.n0x, .int .u64 t.n0y, .slice t.s0 t.l0 t.c0], 28), (b1, (txC t), 37)]) (by kernel_rfl) ?_ (fun hHeld => ?_)
                · have hq0 := HR.drew H6.out
                  exact ⟨HR.cell hq0 (b := b6) (cs := #[.int .u64 t.n0x, .int .u64 t.n0y, .slice t.s0 t.l0 t.c0]) (t := 28) (by simp) 0 rfl, HR.cell hq0 (b := b6) (cs := #[.int .u64 t.n0x, .int .u64 t.n0y, .slice t.s0 t.l0 t.c0]) (t := 28) (by simp) 1 rfl, HR.cell hq0 (b := b6) (cs := #[.int .u64 t.n0x, .int .u64 t.n0y, .slice t.s0 t.l0 t.c0]) (t := 28) (by simp) 2 rfl, hq0⟩
                refine tk 0 hHeld ?_; refine tk 1 hHeld ?_; refine tk 2 hHeld ?_; refine tk 3 hHeld ?_
                refine stepH 4 (by kernel_rfl) rfl (by rfl) (fun K hK => ?_)
                go_simp
                refine (cA.out _).mono ?_
                rintro e wc1 ⟨rfl, hbc1⟩
                have hrc1 := HR.next hHeld.2.2.2 hbc1
                refine hK.out _ _ ?_ (fun hHeld => ?_)
                · exact ⟨HR.cell hrc1 (b := b6) (cs := #[.int .u64 t.n0x, .int .u64 t.n0y, .slice t.s0 t.l0 t.c0]) (t := 28) (by simp) 0 rfl, HR.cell hrc1 (b := b6) (cs := #[.int .u64 t.n0x, .int .u64 t.n0y, .slice t.s0 t.l0 t.c0]) (t := 28) (by simp) 1 rfl, HR.cell hrc1 (b := b6) (cs := #[.int .u64 t.n0x, .int .u64 t.n0y, .slice t.s0 t.l0 t.c0]) (t := 28) (by simp) 2 rfl, hrc1⟩
                clear hK K
                try simp only [Act.put, List.setIfInBounds_toArray, List.set_cons_zero, List.set_cons_succ]
                refine tk 5 hHeld ?_; refine tk 6 hHeld ?_; refine tk 7 hHeld ?_; refine tk 8 hHeld ?_
                refine stepH 9 (by kernel_rfl) rfl (by rfl) (fun K hK => ?_)
                go_simp
                refine (tZero _).mono ?_
                rintro e wc2 ⟨rfl, hbc2⟩
                have hrc2 := HR.next hHeld.2.2.2 hbc2
                refine hK.out _ _ ?_ (fun hHeld => ?_)
                · exact ⟨HR.cell hrc2 (b := b6) (cs := #[.int .u64 t.n0x, .int .u64 t.n0y, .slice t.s0 t.l0 t.c0]) (t := 28) (by simp) 0 rfl, HR.cell hrc2 (b := b6) (cs := #[.int .u64 t.n0x, .int .u64 t.n0y, .slice t.s0 t.l0 t.c0]) (t := 28) (by simp) 1 rfl, HR.cell hrc2 (b := b6) (cs := #[.int .u64 t.n0x, .int .u64 t.n0y, .slice t.s0 t.l0 t.c0]) (t := 28) (by simp) 2 rfl, hrc2⟩
                clear hK K
                try simp only [Act.put, List.setIfInBounds_toArray, List.set_cons_zero, List.set_cons_succ]
                refine takeH 10 (fun _ _ _ _ _ h => h) (by kernel_rfl) hHeld rfl (by kernel_rfl) (by rfl) (v := .bool true) ?_ ?_
                · intro wz hz
                  (try dsimp only at hz)
                  go_simp
                  exact zeroB_no q2
                try simp only [Act.put, List.setIfInBounds_toArray, List.set_cons_zero, List.set_cons_succ]
                refine tk 11 hHeld ?_; refine tk 12 hHeld ?_; refine tk 13 hHeld ?_; refine tk 14 hHeld ?_; refine tk 15 hHeld ?_; refine tk 16 hHeld ?_; refine tk 17 hHeld ?_; refine tk 18 hHeld ?_
                refine wpAnyH_done (by kernel_rfl) (NoPanic.normal ?_) _
                have H7 := Lib.hid (HR.sub (qs := [(b1, (txC t), 37)]) hHeld.2.2.2 (by simp))
                clear hHeld H6 H2
                go_wp2_with fail
                go_roundw
                case rel => exact ⟨1, _, by omega, rfl, rfl, HB, H7⟩
                case measure => simp [intOf]
              · have hl : ((t.l0 : Int) == 32) = false := beq_eq_false_iff_ne.2 (by omega)
                have hR : Hid (c3 t.n0x t.n0y t.l0 = false) := Lib.hid (by unfold c3; simp [q1, q2, q3])
                replace q1 := Lib.hid q1
                replace q3 := Lib.hid q3
                have HB : Hid (false = okJ t true 1) := Lib.hid (by rw [show okJ t true 1 = (okJ t true 0 && c3 t.n0x t.n0y t.l0) from rfl, ← hbj.out, hR.out]; try rfl)
                refine wp_region_noPanic ?_
                refine wp_region_held_drew (S := fun wq => wq.cell? ⟨b6, 0, none⟩ = some (.int .u64 t.n0x) ∧ wq.cell? ⟨b6, 1, none⟩ = some (.int .u64 t.n0y) ∧ wq.cell? ⟨b6, 2, none⟩ = some (.slice t.s0 t.l0 t.c0) ∧ HR w wq [(b6, #[.int .u64 t.n0x, .int .u64 t.n0y, .slice t.s0 t.l0 t.c0], 28), (b1, (txC t), 37)]) (by kernel_rfl) ?_ (fun hHeld => ?_)
                · have hq0 := HR.drew H6.out
                  exact ⟨HR.cell hq0 (b := b6) (cs := #[.int .u64 t.n0x, .int .u64 t.n0y, .slice t.s0 t.l0 t.c0]) (t := 28) (by simp) 0 rfl, HR.cell hq0 (b := b6) (cs := #[.int .u64 t.n0x, .int .u64 t.n0y, .slice t.s0 t.l0 t.c0]) (t := 28) (by simp) 1 rfl, HR.cell hq0 (b := b6) (cs := #[.int .u64 t.n0x, .int .u64 t.n0y, .slice t.s0 t.l0 t.c0]) (t := 28) (by simp) 2 rfl, hq0⟩
                refine tk 0 hHeld ?_; refine tk 1 hHeld ?_; refine tk 2 hHeld ?_; refine tk 3 hHeld ?_
                refine stepH 4 (by kernel_rfl) rfl (by rfl) (fun K hK => ?_)
                go_simp
                refine (cA.out _).mono ?_
                rintro e wc1 ⟨rfl, hbc1⟩
                have hrc1 := HR.next hHeld.2.2.2 hbc1
                refine hK.out _ _ ?_ (fun hHeld => ?_)
                · exact ⟨HR.cell hrc1 (b := b6) (cs := #[.int .u64 t.n0x, .int .u64 t.n0y, .slice t.s0 t.l0 t.c0]) (t := 28) (by simp) 0 rfl, HR.cell hrc1 (b := b6) (cs := #[.int .u64 t.n0x, .int .u64 t.n0y, .slice t.s0 t.l0 t.c0]) (t := 28) (by simp) 1 rfl, HR.cell hrc1 (b := b6) (cs := #[.int .u64 t.n0x, .int .u64 t.n0y, .slice t.s0 t.l0 t.c0]) (t := 28) (by simp) 2 rfl, hrc1⟩
                clear hK K
                try simp only [Act.put, List.setIfInBounds_toArray, List.set_cons_zero, List.set_cons_succ]
                refine tk 5 hHeld ?_; refine tk 6 hHeld ?_; refine tk 7 hHeld ?_; refine tk 8 hHeld ?_
                refine stepH 9 (by kernel_rfl) rfl (by rfl) (fun K hK => ?_)
                go_simp
                refine (tZero _).mono ?_
                rintro e wc2 ⟨rfl, hbc2⟩
                have hrc2 := HR.next hHeld.2.2.2 hbc2
                refine hK.out _ _ ?_ (fun hHeld => ?_)
                · exact ⟨HR.cell hrc2 (b := b6) (cs := #[.int .u64 t.n0x, .int .u64 t.n0y, .slice t.s0 t.l0 t.c0]) (t := 28) (by simp) 0 rfl, HR.cell hrc2 (b := b6) (cs := #[.int .u64 t.n0x, .int .u64 t.n0y, .slice t.s0 t.l0 t.c0]) (t := 28) (by simp) 1 rfl, HR.cell hrc2 (b := b6) (cs := #[.int .u64 t.n0x, .int .u64 t.n0y, .slice t.s0 t.l0 t.c0]) (t := 28) (by simp) 2 rfl, hrc2⟩
                clear hK K
                try simp only [Act.put, List.setIfInBounds_toArray, List.set_cons_zero, List.set_cons_succ]
                refine takeH 10 (fun _ _ _ _ _ h => h) (by kernel_rfl) hHeld rfl (by kernel_rfl) (by rfl) (v := .bool true) ?_ ?_
                · intro wz hz
                  (try dsimp only at hz)
                  go_simp
                  exact zeroB_no q2
                try simp only [Act.put, List.setIfInBounds_toArray, List.set_cons_zero, List.set_cons_succ]
                refine tk 11 hHeld ?_; refine tk 12 hHeld ?_; refine tk 13 hHeld ?_; refine tk 14 hHeld ?_; refine tk 15 hHeld ?_; refine tk 16 hHeld ?_; refine tk 17 hHeld ?_; refine tk 18 hHeld ?_
                refine wpAnyH_done (by kernel_rfl) (NoPanic.normal ?_) _
                have H7 := Lib.hid (HR.sub (qs := [(b1, (txC t), 37)]) hHeld.2.2.2 (by simp))
                clear hHeld H6 H2
                go_wp2_with fail
                go_roundw
                case rel => exact ⟨1, _, by omega, rfl, rfl, HB, H7⟩
                case measure => simp [intOf]
            · have hR : Hid (c3 t.n0x t.n0y t.l0 = false) := Lib.hid (by unfold c3; simp [q1, q2])
              replace q1 := Lib.hid q1
              have HB : Hid (false = okJ t true 1) := Lib.hid (by rw [show okJ t true 1 = (okJ t true 0 && c3 t.n0x t.n0y t.l0) from rfl, ← hbj.out, hR.out]; try rfl)
              refine wp_region_noPanic ?_
              refine wp_region_held_drew (S := fun wq => wq.cell? ⟨b6, 0, none⟩ = some (.int .u64 t.n0x) ∧ wq.cell? ⟨b6, 1, none⟩ = some (.int .u64 t.n0y) ∧ wq.cell? ⟨b6, 2, none⟩ = some (.slice t.s0 t.l0 t.c0) ∧ HR w wq [(b6, #[.int .u64 t.n0x, .int .u64 t.n0y, .slice t.s0 t.l0 t.c0], 28), (b1, (txC t), 37)]) (by kernel_rfl) ?_ (fun hHeld => ?_)
              · have hq0 := HR.drew H6.out
                exact ⟨HR.cell hq0 (b := b6) (cs := #[.int .u64 t.n0x, .int .u64 t.n0y, .slice t.s0 t.l0 t.c0]) (t := 28) (by simp) 0 rfl, HR.cell hq0 (b := b6) (cs := #[.int .u64 t.n0x, .int .u64 t.n0y, .slice t.s0 t.l0 t.c0]) (t := 28) (by simp) 1 rfl, HR.cell hq0 (b := b6) (cs := #[.int .u64 t.n0x, .int .u64 t.n0y, .slice t.s0 t.l0 t.c0]) (t := 28) (by simp) 2 rfl, hq0⟩
              refine tk 0 hHeld ?_; refine tk 1 hHeld ?_; refine tk 2 hHeld ?_; refine tk 3 hHeld ?_
              refine stepH 4 (by kernel_rfl) rfl (by rfl) (fun K hK => ?_)
              go_simp
              refine (cA.out _).mono ?_
              rintro e wc1 ⟨rfl, hbc1⟩
              have hrc1 := HR.next hHeld.2.2.2 hbc1
              refine hK.out _ _ ?_ (fun hHeld => ?_)
              · exact ⟨HR.cell hrc1 (b := b6) (cs := #[.int .u64 t.n0x, .int .u64 t.n0y, .slice t.s0 t.l0 t.c0]) (t := 28) (by simp) 0 rfl, HR.cell hrc1 (b := b6) (cs := #[.int .u64 t.n0x, .int .u64 t.n0y, .slice t.s0 t.l0 t.c0]) (t := 28) (by simp) 1 rfl, HR.cell hrc1 (b := b6) (cs := #[.int .u64 t.n0x, .int .u64 t.n0y, .slice t.s0 t.l0 t.c0]) (t := 28) (by simp) 2 rfl, hrc1⟩
              clear hK K
              try simp only [Act.put, List.setIfInBounds_toArray, List.set_cons_zero, List.set_cons_succ]
              refine tk 5 hHeld ?_; refine tk 6 hHeld ?_; refine tk 7 hHeld ?_; refine tk 8 hHeld ?_
              refine stepH 9 (by kernel_rfl) rfl (by rfl) (fun K hK => ?_)
              go_simp
              refine (tZero _).mono ?_
              rintro e wc2 ⟨rfl, hbc2⟩
              have hrc2 := HR.next hHeld.2.2.2 hbc2
              refine hK.out _ _ ?_ (fun hHeld => ?_)
              · exact ⟨HR.cell hrc2 (b := b6) (cs := #[.int .u64 t.n0x, .int .u64 t.n0y, .slice t.s0 t.l0 t.c0]) (t := 28) (by simp) 0 rfl, HR.cell hrc2 (b := b6) (cs := #[.int .u64 t.n0x, .int .u64 t.n0y, .slice t.s0 t.l0 t.c0]) (t := 28) (by simp) 1 rfl, HR.cell hrc2 (b := b6) (cs := #[.int .u64 t.n0x, .int .u64 t.n0y, .slice t.s0 t.l0 t.c0]) (t := 28) (by simp) 2 rfl, hrc2⟩
              clear hK K
              try simp only [Act.put, List.setIfInBounds_toArray, List.set_cons_zero, List.set_cons_succ]
              refine takeH 10 (fun _ _ _ _ _ h => h) (by kernel_rfl) hHeld rfl (by kernel_rfl) (by rfl) (v := .bool false) ?_ ?_
              · intro wz hz
                (try dsimp only at hz)
                go_simp
                exact (nzero_if _ _ _).trans (by rw [q2]; rfl)
              try simp only [Act.put, List.setIfInBounds_toArray, List.set_cons_zero, List.set_cons_succ]
              refine tk 11 hHeld ?_; refine tk 12 hHeld ?_; refine sk 13 hHeld ?_; refine sk 14 hHeld ?_; refine sk 15 hHeld ?_; refine sk 16 hHeld ?_; refine tk 17 hHeld ?_; refine tk 18 hHeld ?_
              refine wpAnyH_done (by kernel_rfl) (NoPanic.normal ?_) _
              have H7 := Lib.hid (HR.sub (qs := [(b1, (txC t), 37)]) hHeld.2.2.2 (by simp))
              clear hHeld H6 H2
              go_wp2_with fail
              go_roundw
              case rel => exact ⟨1, _, by omega, rfl, rfl, HB, H7⟩
              case measure => simp [intOf]
        · have hix := idx_n1
          go_upto_region 7 with fail
          clear hix
          have H6a := H2.out.new #[.int .u64 t.n1x, .int .u64 t.n1y, .slice t.s1 t.l1 t.c1] 28
          generalize wr.alloc (.cells #[.int .u64 t.n1x, .int .u64 t.n1y, .slice t.s1 t.l1 t.c1] 28) = w6 at H6a ⊢
          generalize wr.heap.size = b6 at H6a ⊢
          have H6 := Lib.hid H6a
          clear H6a
          cases b
          · have HB : Hid (false = okJ t true 2) := Lib.hid (by rw [show okJ t true 2 = (okJ t true 1 && c3 t.n1x t.n1y t.l1) from rfl, ← hbj.out]; try rfl)
            refine wp_region_noPanic ?_
            refine wp_region_held_drew (S := fun wq => wq.cell? ⟨b6, 0, none⟩ = some (.int .u64 t.n1x) ∧ wq.cell? ⟨b6, 1, none⟩ = some (.int .u64 t.n1y) ∧ wq.cell? ⟨b6, 2, none⟩ = some (.slice t.s1 t.l1 t.c1) ∧ HR w wq [(b6, #[.int .u64 t.n1x, .int .u64 t.n1y, .slice t.s1 t.l1 t.c1], 28), (b1, (txC t), 37)]) (by kernel_rfl) ?_ (fun hHeld => ?_)
            · have hq0 := HR.drew H6.out
              exact ⟨HR.cell hq0 (b := b6) (cs := #[.int .u64 t.n1x, .int .u64 t.n1y, .slice t.s1 t.l1 t.c1]) (t := 28) (by simp) 0 rfl, HR.cell hq0 (b := b6) (cs := #[.int .u64 t.n1x, .int .u64 t.n1y, .slice t.s1 t.l1 t.c1]) (t := 28) (by simp) 1 rfl, HR.cell hq0 (b := b6) (cs := #[.int .u64 t.n1x, .int .u64 t.n1y, .slice t.s1 t.l1 t.c1]) (t := 28) (by simp) 2 rfl, hq0⟩
            refine tk 0 hHeld ?_; refine tk 1 hHeld ?_; refine sk 2 hHeld ?_; refine sk 3 hHeld ?_; refine sk 4 hHeld ?_; refine tk 5 hHeld ?_; refine tk 6 hHeld ?_; refine sk 7 hHeld ?_; refine sk 8 hHeld ?_; refine sk 9 hHeld ?_; refine sk 10 hHeld ?_; refine tk 11 hHeld ?_; refine tk 12 hHeld ?_; refine sk 13 hHeld ?_; refine sk 14 hHeld ?_; refine sk 15 hHeld ?_; refine sk 16 hHeld ?_; refine tk 17 hHeld ?_; refine tk 18 hHeld ?_
            refine wpAnyH_done (by kernel_rfl) (NoPanic.normal ?_) _
            have H7 := Lib.hid (HR.sub (qs := [(b1, (txC t), 37)]) hHeld.2.2.2 (by simp))
            clear hHeld H6 H2
            go_wp2_with fail
            go_roundw
            case rel => exact ⟨2, _, by omega, rfl, rfl, HB, H7⟩
            case measure => simp [intOf]
          · have cA := Lib.hid (fun W => eIn t.n1x t.n1y hok.out.n1x0 hok.out.n1y0 W)
            cases q1 : inN (t.n1x.toNat, t.n1y.toNat)
            · rw [q1] at cA
              have hR : Hid (c3 t.n1x t.n1y t.l1 = false) := Lib.hid (by unfold c3; simp [q1])
              replace q1 := Lib.hid q1
              have HB : Hid (false = okJ t true 2) := Lib.hid (by rw [show okJ t true 2 = (okJ t true 1 && c3 t.n1x t.n1y t.l1) from rfl, ← hbj.out, hR.out]; try rfl)
              refine wp_region_noPanic ?_
              refine wp_region_held_drew (S := fun wq => wq.cell? ⟨b6, 0, none⟩ = some (.int .u64 t.n1x) ∧ wq.cell? ⟨b6, 1, none⟩ = some (.int .u64 t.n1y) ∧ wq.cell? ⟨b6, 2, none⟩ = some (.slice t.s1 t.l1 t.c1) ∧ HR w wq [(b6, #[.int .u64 t.n1x, .int .u64 t.n1y, .slice t.s1 t.l1 t.c1], 28), (b1, (txC t), 37)]) (by kernel_rfl) ?_ (fun hHeld => ?_)
              · have hq0 := HR.drew H6.out
                exact ⟨HR.cell hq0 (b := b6) (cs := #[.int .u64 t.n1x, .int .u64 t.n1y, .slice t.s1 t.l1 t.c1]) (t := 28) (by simp) 0 rfl, HR.cell hq0 (b := b6) (cs := #[.int .u64 t.n1x, .int .u64 t.n1y, .slice t.s1 t.l1 t.c1]) (t := 28) (by simp) 1 rfl, HR.cell hq0 (b := b6) (cs := #[.int .u64 t.n1x, .int .u64 t.n1y, .slice t.s1 t.l1 t.c1]) (t := 28) (by simp) 2 rfl, hq0⟩
              refine tk 0 hHeld ?_; refine tk 1 hHeld ?_; refine tk 2 hHeld ?_; refine tk 3 hHeld ?_
              refine stepH 4 (by kernel_rfl) rfl (by rfl) (fun K hK => ?_)
              go_simp
              refine (cA.out _).mono ?_
              rintro e wc1 ⟨rfl, hbc1⟩
              have hrc1 := HR.next hHeld.2.2.2 hbc1
              refine hK.out _ _ ?_ (fun hHeld => ?_)
              · exact ⟨HR.cell hrc1 (b := b6) (cs := #[.int .u64 t.n1x, .int .u64 t.n1y, .slice t.s1 t.l1 t.c1]) (t := 28) (by simp) 0 rfl, HR.cell hrc1 (b := b6) (cs := #[.int .u64 t.n1x, .int .u64 t.n1y, .slice t.s1 t.l1 t.c1]) (t := 28) (by simp) 1 rfl, HR.cell hrc1 (b := b6) (cs := #[.int .u64 t.n1x, .int .u64 t.n1y, .slice t.s1 t.l1 t.c1]) (t := 28) (by simp) 2 rfl, hrc1⟩
              clear hK K
              try simp only [Act.put, List.setIfInBounds_toArray, List.set_cons_zero, List.set_cons_succ]
              refine tk 5 hHeld ?_; refine tk 6 hHeld ?_; refine sk 7 hHeld ?_; refine sk 8 hHeld ?_; refine sk 9 hHeld ?_; refine sk 10 hHeld ?_; refine tk 11 hHeld ?_; refine tk 12 hHeld ?_; refine sk 13 hHeld ?_; refine sk 14 hHeld ?_; refine sk 15 hHeld ?_; refine sk 16 hHeld ?_; refine tk 17 hHeld ?_; refine tk 18 hHeld ?_
              refine wpAnyH_done (by kernel_rfl) (NoPanic.normal ?_) _
              have H7 := Lib.hid (HR.sub (qs := [(b1, (txC t), 37)]) hHeld.2.2.2 (by simp))
              clear hHeld H6 H2
              go_wp2_with fail
              go_roundw
              case rel => exact ⟨2, _, by omega, rfl, rfl, HB, H7⟩
              case measure => simp [intOf]
            · rw [q1] at cA
              cases q2 : zeroB t.n1x t.n1y
              · by_cases q3 : t.l1 = 32
                · have hl : ((t.l1 : Int) == 32) = true := beq_iff_eq.2 (by omega)
                  have hR : Hid (c3 t.n1x t.n1y t.l1 = true) := Lib.hid (by unfold c3; simp [q1, q2, q3])
                  replace q1 := Lib.hid q1
                  replace q3 := Lib.hid q3
                  have HB : Hid (true = okJ t true 2) := Lib.hid (by rw [show okJ t true 2 = (okJ t true 1 && c3 t.n1x t.n1y t.l1) from rfl, ← hbj.out, hR.out]; try rfl)
                  refine wp_region_noPanic ?_
                  refine wp_region_held_drew (S := fun wq => wq.cell? ⟨b6, 0, none⟩ = some (.int .u64 t.n1x) ∧ wq.cell? ⟨b6, 1, none⟩ = some (.int .u64 t.n1y) ∧ wq.cell? ⟨b6, 2, none⟩ = some (.slice t.s1 t.l1 t.c1) ∧ HR w wq [(b6, #[.int .u64 t.n1x, .int .u64 t.n1y, .slice t.s1 t.l1 t.c1], 28), (b1, (txC t), 37)]) (by kernel_rfl) ?_ (fun hHeld => ?_)
                  · have hq0 := HR.drew H6.out
                    exact ⟨HR.cell hq0 (b := b6) (cs := #[.int .u64 t.n1x, .int .u64 t.n1y, .slice t.s1 t.l1 t.c1]) (t := 28) (by simp) 0 rfl, HR.cell hq0 (b := b6) (cs := #[.int .u64 t.n1x, .int .u64 t.n1y, .slice t.s1 t.l1 t.c1]) (t := 28) (by simp) 1 rfl, HR.cell hq0 (b := b6) (cs := #[.int .u64 t.n1x, .int .u64 t.n1y, .slice t.s1 t.l1 t.c1]) (t := 28) (by simp) 2 rfl, hq0⟩
                  refine tk 0 hHeld ?_; refine tk 1 hHeld ?_; refine tk 2 hHeld ?_; refine tk 3 hHeld ?_
                  refine stepH 4 (by kernel_rfl) rfl (by rfl) (fun K hK => ?_)
                  go_simp
                  refine (cA.out _).mono ?_
                  rintro e wc1 ⟨rfl, hbc1⟩
                  have hrc1 := HR.next hHeld.2.2.2 hbc1
                  refine hK.out _ _ ?_ (fun hHeld => ?_)
                  · exact ⟨HR.cell hrc1 (b := b6) (cs := #[.int .u64 t.n1x, .int .u64 t.n1y, .slice t.s1 t.l1 t.c1]) (t := 28) (by simp) 0 rfl, HR.cell hrc1 (b := b6) (cs := #[.int .u64 t.n1x, .int .u64 t.n1y, .slice t.s1 t.l1 t.c1]) (t := 28) (by simp) 1 rfl, HR.cell hrc1 (b := b6) (cs := #[.int .u64 t.n1x, .int .u64 t.n1y, .slice t.s1 t.l1 t.c1]) (t := 28) (by simp) 2 rfl, hrc1⟩
                  clear hK K
                  try simp only [Act.put, List.setIfInBounds_toArray, List.set_cons_zero, List.set_cons_succ]
                  refine tk 5 hHeld ?_; refine tk 6 hHeld ?_; refine tk 7 hHeld ?_; refine tk 8 hHeld ?_
                  refine stepH 9 (by kernel_rfl) rfl (by rfl) (fun K hK => ?_)
                  go_simp
                  refine (tZero _).mono ?_
                  rintro e wc2 ⟨rfl, hbc2⟩
                  have hrc2 := HR.next hHeld.2.2.2 hbc2
                  refine hK.out _ _ ?_ (fun hHeld => ?_)
                  · exact ⟨HR.cell hrc2 (b := b6) (cs := #[.int .u64 t.n1x, .int .u64 t.n1y, .slice t.s1 t.l1 t.c1]) (t := 28) (by simp) 0 rfl, HR.cell hrc2 (b := b6) (cs := #[.int .u64 t.n1x, .int .u64 t.n1y, .slice t.s1 t.l1 t.c1]) (t := 28) (by simp) 1 rfl, HR.cell hrc2 (b := b6) (cs := #[.int .u64 t.n1x, .int .u64 t.n1y, .slice t.s1 t.l1 t.c1]) (t := 28) (by simp) 2 rfl, hrc2⟩
                  clear hK K
                  try simp only [Act.put, List.setIfInBounds_toArray, List.set_cons_zero, List.set_cons_succ]
                  refine takeH 10 (fun _ _ _ _ _ h => h) (by kernel_rfl) hHeld rfl (by kernel_rfl) (by rfl) (v := .bool true) ?_ ?_
                  · intro wz hz
                    (try dsimp only at hz)
                    go_simp
                    exact zeroB_no q2
                  try simp only [Act.put, List.setIfInBounds_toArray, List.set_cons_zero, List.set_cons_succ]
                  refine tk 11 hHeld ?_; refine tk 12 hHeld ?_; refine tk 13 hHeld ?_; refine tk 14 hHeld ?_; refine tk 15 hHeld ?_; refine tk 16 hHeld ?_; refine tk 17 hHeld ?_; refine tk 18 hHeld ?_
                  refine wpAnyH_done (by kernel_rfl) (NoPanic.normal ?_) _
                  have H7 := Lib.hid (HR.sub (qs := [(b1, (txC t), 37)]) hHeld.2.2.2 (by simp))
                  clear hHeld H6 H2
                  go_wp2_with fail
                  go_roundw
                  case rel => exact ⟨2, _, by omega, rfl, rfl, HB, H7⟩
                  case measure => simp [intOf]
                · have hl : ((t.l1 : Int) == 32) = false := beq_eq_false_iff_ne.2 (by omega)
                  have hR : Hid (c3 t.n1x t.n1y t.l1 = false) := Lib.hid (by unfold c3; simp [q1, q2, q3])
                  replace q1 := Lib.hid q1
                  replace q3 := Lib.hid q3
                  have HB : Hid (false = okJ t true 2) := Lib.hid (by rw [show okJ t true 2 = (okJ t true 1 && c3 t.n1x t.n1y t.l1) from rfl, ← hbj.out, hR.out]; try rfl)
                  refine wp_region_noPanic ?_
                  refine wp_region_held_drew (S := fun wq => wq.cell? ⟨b6, 0, none⟩ = some (.int .u64 t.n1x) ∧ wq.cell? ⟨b6, 1, none⟩ = some (.int .u64 t.n1y) ∧ wq.cell? ⟨b6, 2, none⟩ = some (.slice t.s1 t.l1 t.c1) ∧ HR w wq [(b6, #[.int .u64 t.n1x, .int .u64 t.n1y, .slice t.s1 t.l1 t.c1], 28), (b1, (txC t), 37)]) (by kernel_rfl) ?_ (fun hHeld => ?_)
                  · have hq0 := HR.drew H6.out
                    exact ⟨HR.cell hq0 (b := b6) (cs := #[.int .u64 t.n1x, .int .u64 t.n1y, .slice t.s1 t.l1 t.c1]) (t := 28) (by simp) 0 rfl, HR.cell hq0 (b := b6) (cs := #[.int .u64 t.n1x, .int .u64 t.n1y, .slice t.s1 t.l1 t.c1]) (t := 28) (by simp) 1 rfl, HR.cell hq0 (b := b6) (cs := #[.int .u64 t.n1x, .int .u64 t.n1y, .slice t.s1 t.l1 t.c1]) (t := 28) (by simp) 2 rfl, hq0⟩
                  refine tk 0 hHeld ?_; refine tk 1 hHeld ?_; refine tk 2 hHeld ?_; refine tk 3 hHeld ?_
                  refine stepH 4 (by kernel_rfl) rfl (by rfl) (fun K hK => ?_)
                  go_simp
                  refine (cA.out _).mono ?_
                  rintro e wc1 ⟨rfl, hbc1⟩
                  have hrc1 := HR.next hHeld.2.2.2 hbc1
                  refine hK.out _ _ ?_ (fun hHeld => ?_)
                  · exact ⟨HR.cell hrc1 (b := b6) (cs := #[.int .u64 t.n1x, .int .u64 t.n1y, .slice t.s1 t.l1 t.c1]) (t := 28) (by simp) 0 rfl, HR.cell hrc1 (b := b6) (cs := #[.int .u64 t.n1x, .int .u64 t.n1y, .slice t.s1 t.l1 t.c1]) (t := 28) (by simp) 1 rfl, HR.cell hrc1 (b := b6) (cs := #[.int .u64 t.n1x, .int .u64 t.n1y, .slice t.s1 t.l1 t.c1]) (t := 28) (by simp) 2 rfl, hrc1⟩
                  clear hK K
                  try simp only [Act.put, List.setIfInBounds_toArray, List.set_cons_zero, List.set_cons_succ]
                  refine tk 5 hHeld ?_; refine tk 6 hHeld ?_; refine tk 7 hHeld ?_; refine tk 8 hHeld ?_
                  refine stepH 9 (by kernel_rfl) rfl (by rfl) (fun K hK => ?_)
                  go_simp
                  refine (tZero _).mono ?_
                  rintro e wc2 ⟨rfl, hbc2⟩
                  have hrc2 := HR.next hHeld.2.2.2 hbc2
                  refine hK.out _ _ ?_ (fun hHeld => ?_)
                  · exact ⟨HR.cell hrc2 (b := b6) (cs := #[.int .u64 t.n1x, .int .u64 t.n1y, .slice t.s1 t.l1 t.c1]) (t := 28) (by simp) 0 rfl, HR.cell hrc2 (b := b6) (cs := #[.int .u64 t.n1x, .int .u64 t.n1y, .slice t.s1 t.l1 t.c1]) (t := 28) (by simp) 1 rfl, HR.cell hrc2 (b := b6) (cs := #[.int .u64 t.n1x, .int .u64 t.n1y, .slice t.s1 t.l1 t.c1]) (t := 28) (by simp) 2 rfl, hrc2⟩
                  clear hK K
                  try simp only [Act.put, List.setIfInBounds_toArray, List.set_cons_zero, List.set_cons_succ]
                  refine takeH 10 (fun _ _ _ _ _ h => h) (by kernel_rfl) hHeld rfl (by kernel_rfl) (by rfl) (v := .bool true) ?_ ?_
                  · intro wz hz
                    (try dsimp only at hz)
                    go_simp
                    exact zeroB_no q2
                  try simp only [Act.put, List.setIfInBounds_toArray, List.set_cons_zero, List.set_cons_succ]
                  refine tk 11 hHeld ?_; refine tk 12 hHeld ?_; refine tk 13 hHeld ?_; refine tk 14 hHeld ?_; refine tk 15 hHeld ?_; refine tk 16 hHeld ?_; refine tk 17 hHeld ?_; refine tk 18 hHeld ?_
                  refine wpAnyH_done (by kernel_rfl) (NoPanic.normal ?_) _
                  have H7 := Lib.hid (HR.sub (qs := [(b1, (txC t), 37)]) hHeld.2.2.2 (by simp))
                  clear hHeld H6 H2
                  go_wp2_with fail
                  go_roundw
                  case rel => exact ⟨2, _, by omega, rfl, rfl, HB, H7⟩
                  case measure => simp [intOf]
              · have hR : Hid (c3 t.n1x t.n1y t.l1 = false) := Lib.hid (by unfold c3; simp [q1, q2])
                replace q1 := Lib.hid q1
                have HB : Hid (false = okJ t true 2) := Lib.hid (by rw [show okJ t true 2 = (okJ t true 1 && c3 t.n1x t.n1y t.l1) from rfl, ← hbj.out, hR.out]; try rfl)
                refine wp_region_noPanic ?_
                refine wp_region_held_drew (S := fun wq => wq.cell? ⟨b6, 0, none⟩ = some (.int .u64 t.n1x) ∧ wq.cell? ⟨b6, 1, none⟩ = some (.int .u64 t.n1y) ∧ wq.cell? ⟨b6, 2, none⟩ = some (.slice t.s1 t.l1 t.c1) ∧ HR w wq [(b6, #[.int .u64 t.n1x, .int .u64 t.n1y, .slice t.s1 t.l1 t.c1], 28), (b1, (txC t), 37)]) (by kernel_rfl) ?_ (fun hHeld => ?_)
                · have hq0 := HR.drew H6.out
                  exact ⟨HR.cell hq0 (b := b6) (cs := #[.int .u64 t.n1x, .int .u64 t.n1y, .slice t.s1 t.l1 t.c1]) (t := 28) (by simp) 0 rfl, HR.cell hq0 (b := b6) (cs := #[.int .u64 t.n1x, .int .u64 t.n1y, .slice t.s1 t.l1 t.c1]) (t := 28) (by simp) 1 rfl, HR.cell hq0 (b := b6) (cs := #[.int .u64 t.n1x, .int .u64 t.n1y, .slice t.s1 t.l1 t.c1]) (t := 28) (by simp) 2 rfl, hq0⟩
                refine tk 0 hHeld ?_; refine tk 1 hHeld ?_; refine tk 2 hHeld ?_; refine tk 3 hHeld ?_
                refine stepH 4 (by kernel_rfl) rfl (by rfl) (fun K hK => ?_)
                go_simp
                refine (cA.out _).mono ?_
                rintro e wc1 ⟨rfl, hbc1⟩
                have hrc1 := HR.next hHeld.2.2.2 hbc1
                refine hK.out _ _ ?_ (fun hHeld => ?_)
                · exact ⟨HR.cell hrc1 (b := b6) (cs := #[.int .u64 t.n1x, .int .u64 t.n1y, .slice t.s1 t.l1 t.c1]) (t := 28) (by simp) 0 rfl, HR.cell hrc1 (b := b6) (cs := #[.int .u64 t.n1x, .int .u64 t.n1y, .slice t.s1 t.l1 t.c1]) (t := 28) (by simp) 1 rfl, HR.cell hrc1 (b := b6) (cs := #[.int .u64 t.n1x, .int .u64 t.n1y, .slice t.s1 t.l1 t.c1]) (t := 28) (by simp) 2 rfl, hrc1⟩
                clear hK K
                try simp only [Act.put, List.setIfInBounds_toArray, List.set_cons_zero, List.set_cons_succ]
                refine tk 5 hHeld ?_; refine tk 6 hHeld ?_; refine tk 7 hHeld ?_; refine tk 8 hHeld ?_
                refine stepH 9 (by kernel_rfl) rfl (by rfl) (fun K hK => ?_)
                go_simp
                refine (tZero _).mono ?_
                rintro e wc2 ⟨rfl, hbc2⟩
                have hrc2 := HR.next hHeld.2.2.2 hbc2
                refine hK.out _ _ ?_ (fun hHeld => ?_)
                · exact ⟨HR.cell hrc2 (b := b6) (cs := #[.int .u64 t.n1x, .int .u64 t.n1y, .slice t.s1 t.l1 t.c1]) (t := 28) (by simp) 0 rfl, HR.cell hrc2 (b := b6) (cs := #[.int .u64 t.n1x, .int .u64 t.n1y, .slice t.s1 t.l1 t.c1]) (t := 28) (by simp) 1 rfl, HR.cell hrc2 (b := b6) (cs := #[.int .u64 t.n1x, .int .u64 t.n1y, .slice t.s1 t.l1 t.c1]) (t := 28) (by simp) 2 rfl, hrc2⟩
                clear hK K
                try simp only [Act.put, List.setIfInBounds_toArray, List.set_cons_zero, List.set_cons_succ]
                refine takeH 10 (fun _ _ _ _ _ h => h) (by kernel_rfl) hHeld rfl (by kernel_rfl) (by rfl) (v := .bool false) ?_ ?_
                · intro wz hz
                  (try dsimp only at hz)
                  go_simp
                  exact (nzero_if _ _ _).trans (by rw [q2]; rfl)
                try simp only [Act.put, List.setIfInBounds_toArray, List.set_cons_zero, List.set_cons_succ]
                refine tk 11 hHeld ?_; refine tk 12 hHeld ?_; refine sk 13 hHeld ?_; refine sk 14 hHeld ?_; refine sk 15 hHeld ?_; refine sk 16 hHeld ?_; refine tk 17 hHeld ?_; refine tk 18 hHeld ?_
                refine wpAnyH_done (by kernel_rfl) (NoPanic.normal ?_) _
                have H7 := Lib.hid (HR.sub (qs := [(b1, (txC t), 37)]) hHeld.2.2.2 (by simp))
                clear hHeld H6 H2
                go_wp2_with fail
                go_roundw
                case rel => exact ⟨2, _, by omega, rfl, rfl, HB, H7⟩
                case measure => simp [intOf]
        · obtain rfl : b = false := hbj.out.trans hC3.out
          go_upto_region 10 with fail
          refine wp_region_noPanic ?_
          refine wp_region_held_drew (S := fun wq => wq.cell? ⟨b1, 1, none⟩ = some (.int .u64 t.inn) ∧ wq.cell? ⟨b1, 7, none⟩ = some (.int .u64 t.seq) ∧ wq.cell? ⟨b1, 29, none⟩ = some (.int .u64 t.gx) ∧ wq.cell? ⟨b1, 30, none⟩ = some (.int .u64 t.gy) ∧ wq.cell? ⟨b1, 31, none⟩ = some (.int .u64 t.gz) ∧ HR w wq [(b1, (txC t), 37)]) (by kernel_rfl) ?_ (fun hHeld => ?_)
          · have hq0 := HR.drew H2.out
            exact ⟨HR.cell hq0 (b := b1) (cs := (txC t)) (t := 37) (by simp) 1 rfl, HR.cell hq0 (b := b1) (cs := (txC t)) (t := 37) (by simp) 7 rfl, HR.cell hq0 (b := b1) (cs := (txC t)) (t := 37) (by simp) 29 rfl, HR.cell hq0 (b := b1) (cs := (txC t)) (t := 37) (by simp) 30 rfl, HR.cell hq0 (b := b1) (cs := (txC t)) (t := 37) (by simp) 31 rfl, hq0⟩
          refine tk 0 hHeld ?_; refine tk 1 hHeld ?_; refine tk 2 hHeld ?_; refine sk 3 hHeld ?_; refine sk 4 hHeld ?_; refine sk 5 hHeld ?_; refine sk 6 hHeld ?_; refine sk 7 hHeld ?_; refine sk 8 hHeld ?_; refine sk 9 hHeld ?_; refine sk 10 hHeld ?_; refine sk 11 hHeld ?_; refine sk 12 hHeld ?_; refine sk 13 hHeld ?_; refine sk 14 hHeld ?_; refine sk 15 hHeld ?_; refine sk 16 hHeld ?_; refine tk 17 hHeld ?_
          refine wpAnyH_done (by kernel_rfl) (NoPanic.normal ?_) _
          have hL := Lib.hid hHeld.2.2.2.2.2.2
          clear hHeld
          go_wp2_with fail
          go_ret
          exact ⟨rfl, hL.out⟩

end Go.Proofs.Ytkfimfjjmdjbdaa
