import Derived.Test.YtkfimfjjmdjbdaaUh
import Derived.Test.YtkfimfjjmdjbdaaUj
import Derived.Test.YtkfimfjjmdjbdaaUk
set_option linter.unusedVariables false
set_option linter.unusedSimpArgs false
set_option linter.unusedSectionVars false
/- Walks: package tx: whether a transaction may be. -/
namespace Go.Proofs.Ytkfimfjjmdjbdaa
open Go.RowKit
set_option linter.unusedVariables false

set_option maxRecDepth 100000 in
set_option maxHeartbeats 100000000 in
theorem tCheckA (t : TxD) (h : TxOk t) (hA0 : (c1 t && c2 t) = false) (w : World) : Calls Try.prog 9 #[txV t] w (ChkSaid false w) := by
  go_enter Try.func9, Try.ntmps9
  go_upto_region 1 with fail
  have H0 := (HR.refl w).new (txC t) 37
  have hlt1 := H0.lt (b := w.heap.size) (cs := (txC t)) (t := 37) (by simp)
  generalize w.alloc (.cells (txC t) 37) = w2 at H0 hlt1 ⊢
  generalize hb1 : w.heap.size = b1 at H0 hlt1 ⊢
  have hbs : Hid (w.heap.size = b1 ∧ b1 < w2.heap.size) := Lib.hid ⟨hb1, hlt1⟩
  have H1 : Hid (HR w w2 [(b1, (txC t), 37)]) := Lib.hid H0
  clear hb1 H0 hlt1
  have hAA := Lib.hid hA0
  clear hA0
  have hok := Lib.hid h
  clear h
  refine wp_region_noPanic ?_
  refine wp_region_held_drew (S := fun wq => wq.cell? ⟨b1, 0, none⟩ = some (.int .u64 t.root) ∧ HR w wq [(b1, (txC t), 37)]) (by kernel_rfl) ?_ (fun hHeld => ?_)
  · have hq0 := HR.drew H1.out
    exact ⟨HR.cell hq0 (b := b1) (cs := (txC t)) (t := 37) (by simp) 0 rfl, hq0⟩
  refine tk 0 hHeld ?_; refine tk 1 hHeld ?_; refine tk 3 hHeld ?_; refine tk 4 hHeld ?_; refine tk 5 hHeld ?_; refine tk 6 hHeld ?_; refine tk 7 hHeld ?_; refine tk 8 hHeld ?_
  refine stepH 2 (by kernel_rfl) rfl (by rfl) (fun K hK => ?_)
  go_simp
  refine hK.out _ _ ?_ (fun hHeld => ?_)
  · exact ⟨HR.cell (HR.alloc hHeld.2 _) (b := b1) (cs := (txC t)) (t := 37) (by simp) 0 rfl, (HR.alloc hHeld.2 _)⟩
  clear hK K
  try simp only [Act.put, List.setIfInBounds_toArray, List.set_cons_zero, List.set_cons_succ]
  refine stepH 9 (by kernel_rfl) rfl (by rfl) (fun K hK => ?_)
  go_simp
  refine hK.out _ _ ?_ (fun hHeld => ?_)
  · exact ⟨HR.cell (HR.alloc hHeld.2 _) (b := b1) (cs := (txC t)) (t := 37) (by simp) 0 rfl, (HR.alloc hHeld.2 _)⟩
  clear hK K
  try simp only [Act.put, List.setIfInBounds_toArray, List.set_cons_zero, List.set_cons_succ]
  have hlt2 := hbs.out.2
  have cC0 := (uConcat (w2.heap.size + 1) 4 4 [⟨w2.heap.size, 0, 1, 1, [t.root.toNat]⟩, ⟨b1, 8, 2, 2, [t.e0.toNat, t.e1.toNat]⟩, ⟨b1, 10, 2, 2, [t.m0.toNat, t.m1.toNat]⟩, ⟨b1, 18, 2, 2, [t.a0.toNat, t.a1.toNat]⟩] rfl (by decide) ((w2.drew.alloc (.cells #[.int .u64 t.root] 22)).alloc (.cells #[.slice (some ⟨w2.heap.size, 0, none⟩) 1 1, .slice (some ⟨b1, 8, none⟩) 2 2, .slice (some ⟨b1, 10, none⟩) 2 2, .slice (some ⟨b1, 18, none⟩) 2 2] 57)) (by
    have h := Row.new (w2.drew.alloc (.cells #[.int .u64 t.root] 22)) #[.slice (some ⟨w2.heap.size, 0, none⟩) 1 1, .slice (some ⟨b1, 8, none⟩) 2 2, .slice (some ⟨b1, 10, none⟩) 2 2, .slice (some ⟨b1, 18, none⟩) 2 2] 57
    rw [World.size_alloc] at h
    exact h) (parts_ok t hok.out w _ b1 w2.heap.size (hHeld.2.row (by simp)) ((Row.new _ _ _).alloc _)) (show 0 < 7 by decide) (show 7 ≤ 1000 by decide))
  rw [show catL [⟨w2.heap.size, 0, 1, 1, [t.root.toNat]⟩, ⟨b1, 8, 2, 2, [t.e0.toNat, t.e1.toNat]⟩, ⟨b1, 10, 2, 2, [t.m0.toNat, t.m1.toNat]⟩, ⟨b1, 18, 2, 2, [t.a0.toNat, t.a1.toNat]⟩] = numsL t from rfl, show (numsL t).length = 7 from rfl] at cC0
  have cC := Lib.hid cC0
  clear cC0
  refine stepH 10 (by kernel_rfl) rfl (by rfl) (fun K hK => ?_)
  go_simp
  refine (cC.out).mono ?_
  rintro e wc1 ⟨g, c, rfl, hOU, hbc1⟩
  have hrc1 := HR.next hHeld.2 hbc1
  have hU := Lib.hid hOU
  refine hK.out _ _ ?_ (fun hHeld => ?_)
  · exact ⟨HR.cell hrc1 (b := b1) (cs := (txC t)) (t := 37) (by simp) 0 rfl, hrc1⟩
  clear hK K
  try simp only [Act.put, List.setIfInBounds_toArray, List.set_cons_zero, List.set_cons_succ]
  refine tk 11 hHeld ?_
  refine wpAnyH_done (by kernel_rfl) (NoPanic.normal ?_) _
  have H2 := Lib.hid hHeld.2
  have cF0 := uContains g 0 7 c (numsL t) rfl (by decide) _ hU.out.ul
  clear hHeld cC H1
  go_upto_region 2 with fail
  go_cut [4] (fun v wc => v = .bool (c1 t) ∧ Hid (HR w wc [(b1, (txC t), 37)]))
  case first =>
    cases hA : (numsL t).any bigN
    · rw [hA] at cF0
      by_cases h1 : t.inn < 4294967296
      · have d1 : decide (t.inn < 4294967296) = true := decide_eq_true h1
        by_cases h2 : t.out < 4294967296
        · have d2 : decide (t.out < 4294967296) = true := decide_eq_true h2
          by_cases h3 : t.seq ≤ 1125899906842624
          · have d3 : decide (t.seq ≤ 1125899906842624) = true := decide_eq_true h3
            have hR : Hid (c1 t = true) := Lib.hid (by unfold c1; simp [hA, h1, h2, h3])
            have cF := Lib.hid cF0
            clear cF0
            replace hA := Lib.hid hA
            have k_inn := HR.cell H2.out (b := b1) (cs := (txC t)) (t := 37) (by simp) 1 rfl
            have k_out := HR.cell H2.out (b := b1) (cs := (txC t)) (t := 37) (by simp) 2 rfl
            have k_seq := HR.cell H2.out (b := b1) (cs := (txC t)) (t := 37) (by simp) 7 rfl
            go_wp2_with (go_at_call 21; refine cF.out.mono ?_; rintro e w' ⟨rfl, rfl⟩)
            go_meet
            exact ⟨by rw [hR.out], H2⟩
          · have d3 : decide (t.seq ≤ 1125899906842624) = false := decide_eq_false h3
            have hR : Hid (c1 t = false) := Lib.hid (by unfold c1; simp [hA, h1, h2, h3])
            have cF := Lib.hid cF0
            clear cF0
            replace hA := Lib.hid hA
            have k_inn := HR.cell H2.out (b := b1) (cs := (txC t)) (t := 37) (by simp) 1 rfl
            have k_out := HR.cell H2.out (b := b1) (cs := (txC t)) (t := 37) (by simp) 2 rfl
            have k_seq := HR.cell H2.out (b := b1) (cs := (txC t)) (t := 37) (by simp) 7 rfl
            go_wp2_with (go_at_call 21; refine cF.out.mono ?_; rintro e w' ⟨rfl, rfl⟩)
            go_meet
            exact ⟨by rw [hR.out], H2⟩
        · have d2 : decide (t.out < 4294967296) = false := decide_eq_false h2
          have hR : Hid (c1 t = false) := Lib.hid (by unfold c1; simp [hA, h1, h2])
          have cF := Lib.hid cF0
          clear cF0
          replace hA := Lib.hid hA
          have k_inn := HR.cell H2.out (b := b1) (cs := (txC t)) (t := 37) (by simp) 1 rfl
          have k_out := HR.cell H2.out (b := b1) (cs := (txC t)) (t := 37) (by simp) 2 rfl
          have k_seq := HR.cell H2.out (b := b1) (cs := (txC t)) (t := 37) (by simp) 7 rfl
          go_wp2_with (go_at_call 21; refine cF.out.mono ?_; rintro e w' ⟨rfl, rfl⟩)
          go_meet
          exact ⟨by rw [hR.out], H2⟩
      · have d1 : decide (t.inn < 4294967296) = false := decide_eq_false h1
        have hR : Hid (c1 t = false) := Lib.hid (by unfold c1; simp [hA, h1])
        have cF := Lib.hid cF0
        clear cF0
        replace hA := Lib.hid hA
        have k_inn := HR.cell H2.out (b := b1) (cs := (txC t)) (t := 37) (by simp) 1 rfl
        have k_out := HR.cell H2.out (b := b1) (cs := (txC t)) (t := 37) (by simp) 2 rfl
        have k_seq := HR.cell H2.out (b := b1) (cs := (txC t)) (t := 37) (by simp) 7 rfl
        go_wp2_with (go_at_call 21; refine cF.out.mono ?_; rintro e w' ⟨rfl, rfl⟩)
        go_meet
        exact ⟨by rw [hR.out], H2⟩
    · rw [hA] at cF0
      have hR : Hid (c1 t = false) := Lib.hid (by unfold c1; simp [hA])
      have cF := Lib.hid cF0
      clear cF0
      replace hA := Lib.hid hA
      have k_inn := HR.cell H2.out (b := b1) (cs := (txC t)) (t := 37) (by simp) 1 rfl
      have k_out := HR.cell H2.out (b := b1) (cs := (txC t)) (t := 37) (by simp) 2 rfl
      have k_seq := HR.cell H2.out (b := b1) (cs := (txC t)) (t := 37) (by simp) 7 rfl
      go_wp2_with (go_at_call 21; refine cF.out.mono ?_; rintro e w' ⟨rfl, rfl⟩)
      go_meet
      exact ⟨by rw [hR.out], H2⟩
  case rest =>
    clear cF0 H2 hU
    obtain ⟨rfl, H2⟩ := hcut
    obtain ⟨b, hb⟩ : ∃ b, c1 t = b := ⟨_, rfl⟩
    rw [hb]
    replace hb := Lib.hid hb
    go_upto_region 3 with fail
    go_cut [4] (fun v wc => v = .bool (b && c2 t) ∧ Hid (HR w wc [(b1, (txC t), 37)]))
    case first =>
      cases b
      · refine wp_region_noPanic ?_
        refine wp_region_held_drew (S := fun wq => wq.cell? ⟨b1, 3, none⟩ = some (.int .u64 t.fx) ∧ wq.cell? ⟨b1, 4, none⟩ = some (.int .u64 t.fy) ∧ wq.cell? ⟨b1, 5, none⟩ = some (.int .u64 t.tx) ∧ wq.cell? ⟨b1, 6, none⟩ = some (.int .u64 t.ty) ∧ wq.cell? ⟨b1, 1, none⟩ = some (.int .u64 t.inn) ∧ wq.cell? ⟨b1, 2, none⟩ = some (.int .u64 t.out) ∧ HR w wq [(b1, (txC t), 37)]) (by kernel_rfl) ?_ (fun hHeld => ?_)
        · have hq0 := HR.drew H2.out
          exact ⟨HR.cell hq0 (b := b1) (cs := (txC t)) (t := 37) (by simp) 3 rfl, HR.cell hq0 (b := b1) (cs := (txC t)) (t := 37) (by simp) 4 rfl, HR.cell hq0 (b := b1) (cs := (txC t)) (t := 37) (by simp) 5 rfl, HR.cell hq0 (b := b1) (cs := (txC t)) (t := 37) (by simp) 6 rfl, HR.cell hq0 (b := b1) (cs := (txC t)) (t := 37) (by simp) 1 rfl, HR.cell hq0 (b := b1) (cs := (txC t)) (t := 37) (by simp) 2 rfl, hq0⟩
        refine tk 0 hHeld ?_; refine tk 1 hHeld ?_; refine sk 2 hHeld ?_; refine sk 3 hHeld ?_; refine sk 4 hHeld ?_; refine tk 5 hHeld ?_; refine tk 6 hHeld ?_; refine sk 7 hHeld ?_; refine sk 8 hHeld ?_; refine sk 9 hHeld ?_; refine tk 10 hHeld ?_; refine tk 11 hHeld ?_; refine sk 12 hHeld ?_; refine sk 13 hHeld ?_; refine sk 14 hHeld ?_; refine sk 15 hHeld ?_; refine sk 16 hHeld ?_; refine sk 17 hHeld ?_; refine sk 18 hHeld ?_; refine sk 19 hHeld ?_; refine tk 20 hHeld ?_; refine tk 21 hHeld ?_; refine sk 22 hHeld ?_; refine sk 23 hHeld ?_; refine sk 24 hHeld ?_; refine sk 25 hHeld ?_; refine sk 26 hHeld ?_; refine sk 27 hHeld ?_; refine sk 28 hHeld ?_; refine sk 29 hHeld ?_; refine tk 30 hHeld ?_; refine tk 31 hHeld ?_
        refine wpAnyH_done (by kernel_rfl) (NoPanic.normal ?_) _
        go_wp2_with fail
        go_meet
        exact ⟨rfl, Lib.hid hHeld.2.2.2.2.2.2⟩
      · have cA := Lib.hid (fun W => eIn t.fx t.fy hok.out.fx0 hok.out.fy0 W)
        have cB := Lib.hid (fun W => eIn t.tx t.ty hok.out.tx0 hok.out.ty0 W)
        cases q1 : inN (t.fx.toNat, t.fy.toNat)
        · rw [q1] at cA
          have hR : Hid (c2 t = false) := Lib.hid (by unfold c2; simp [q1])
          replace q1 := Lib.hid q1
          refine wp_region_noPanic ?_
          refine wp_region_held_drew (S := fun wq => wq.cell? ⟨b1, 3, none⟩ = some (.int .u64 t.fx) ∧ wq.cell? ⟨b1, 4, none⟩ = some (.int .u64 t.fy) ∧ wq.cell? ⟨b1, 5, none⟩ = some (.int .u64 t.tx) ∧ wq.cell? ⟨b1, 6, none⟩ = some (.int .u64 t.ty) ∧ wq.cell? ⟨b1, 1, none⟩ = some (.int .u64 t.inn) ∧ wq.cell? ⟨b1, 2, none⟩ = some (.int .u64 t.out) ∧ HR w wq [(b1, (txC t), 37)]) (by kernel_rfl) ?_ (fun hHeld => ?_)
          · have hq0 := HR.drew H2.out
            exact ⟨HR.cell hq0 (b := b1) (cs := (txC t)) (t := 37) (by simp) 3 rfl, HR.cell hq0 (b := b1) (cs := (txC t)) (t := 37) (by simp) 4 rfl, HR.cell hq0 (b := b1) (cs := (txC t)) (t := 37) (by simp) 5 rfl, HR.cell hq0 (b := b1) (cs := (txC t)) (t := 37) (by simp) 6 rfl, HR.cell hq0 (b := b1) (cs := (txC t)) (t := 37) (by simp) 1 rfl, HR.cell hq0 (b := b1) (cs := (txC t)) (t := 37) (by simp) 2 rfl, hq0⟩
          refine tk 0 hHeld ?_; refine tk 1 hHeld ?_; refine tk 2 hHeld ?_; refine tk 3 hHeld ?_
          refine stepH 4 (by kernel_rfl) rfl (by rfl) (fun K hK => ?_)
          go_simp
          refine (cA.out _).mono ?_
          rintro e wc1 ⟨rfl, hbc1⟩
          have hrc1 := HR.next hHeld.2.2.2.2.2.2 hbc1
          refine hK.out _ _ ?_ (fun hHeld => ?_)
          · exact ⟨HR.cell hrc1 (b := b1) (cs := (txC t)) (t := 37) (by simp) 3 rfl, HR.cell hrc1 (b := b1) (cs := (txC t)) (t := 37) (by simp) 4 rfl, HR.cell hrc1 (b := b1) (cs := (txC t)) (t := 37) (by simp) 5 rfl, HR.cell hrc1 (b := b1) (cs := (txC t)) (t := 37) (by simp) 6 rfl, HR.cell hrc1 (b := b1) (cs := (txC t)) (t := 37) (by simp) 1 rfl, HR.cell hrc1 (b := b1) (cs := (txC t)) (t := 37) (by simp) 2 rfl, hrc1⟩
          clear hK K
          try simp only [Act.put, List.setIfInBounds_toArray, List.set_cons_zero, List.set_cons_succ]
          refine tk 5 hHeld ?_; refine tk 6 hHeld ?_; refine sk 7 hHeld ?_; refine sk 8 hHeld ?_; refine sk 9 hHeld ?_; refine tk 10 hHeld ?_; refine tk 11 hHeld ?_; refine sk 12 hHeld ?_; refine sk 13 hHeld ?_; refine sk 14 hHeld ?_; refine sk 15 hHeld ?_; refine sk 16 hHeld ?_; refine sk 17 hHeld ?_; refine sk 18 hHeld ?_; refine sk 19 hHeld ?_; refine tk 20 hHeld ?_; refine tk 21 hHeld ?_; refine sk 22 hHeld ?_; refine sk 23 hHeld ?_; refine sk 24 hHeld ?_; refine sk 25 hHeld ?_; refine sk 26 hHeld ?_; refine sk 27 hHeld ?_; refine sk 28 hHeld ?_; refine sk 29 hHeld ?_; refine tk 30 hHeld ?_; refine tk 31 hHeld ?_
          refine wpAnyH_done (by kernel_rfl) (NoPanic.normal ?_) _
          go_wp2_with fail
          go_meet
          exact ⟨by rw [hR.out]; rfl, Lib.hid hHeld.2.2.2.2.2.2⟩
        · rw [q1] at cA
          cases q2 : inN (t.tx.toNat, t.ty.toNat)
          · rw [q2] at cB
            have hR : Hid (c2 t = false) := Lib.hid (by unfold c2; simp [q1, q2])
            replace q1 := Lib.hid q1
            replace q2 := Lib.hid q2
            refine wp_region_noPanic ?_
            refine wp_region_held_drew (S := fun wq => wq.cell? ⟨b1, 3, none⟩ = some (.int .u64 t.fx) ∧ wq.cell? ⟨b1, 4, none⟩ = some (.int .u64 t.fy) ∧ wq.cell? ⟨b1, 5, none⟩ = some (.int .u64 t.tx) ∧ wq.cell? ⟨b1, 6, none⟩ = some (.int .u64 t.ty) ∧ wq.cell? ⟨b1, 1, none⟩ = some (.int .u64 t.inn) ∧ wq.cell? ⟨b1, 2, none⟩ = some (.int .u64 t.out) ∧ HR w wq [(b1, (txC t), 37)]) (by kernel_rfl) ?_ (fun hHeld => ?_)
            · have hq0 := HR.drew H2.out
              exact ⟨HR.cell hq0 (b := b1) (cs := (txC t)) (t := 37) (by simp) 3 rfl, HR.cell hq0 (b := b1) (cs := (txC t)) (t := 37) (by simp) 4 rfl, HR.cell hq0 (b := b1) (cs := (txC t)) (t := 37) (by simp) 5 rfl, HR.cell hq0 (b := b1) (cs := (txC t)) (t := 37) (by simp) 6 rfl, HR.cell hq0 (b := b1) (cs := (txC t)) (t := 37) (by simp) 1 rfl, HR.cell hq0 (b := b1) (cs := (txC t)) (t := 37) (by simp) 2 rfl, hq0⟩
            refine tk 0 hHeld ?_; refine tk 1 hHeld ?_; refine tk 2 hHeld ?_; refine tk 3 hHeld ?_
            refine stepH 4 (by kernel_rfl) rfl (by rfl) (fun K hK => ?_)
            go_simp
            refine (cA.out _).mono ?_
            rintro e wc1 ⟨rfl, hbc1⟩
            have hrc1 := HR.next hHeld.2.2.2.2.2.2 hbc1
            refine hK.out _ _ ?_ (fun hHeld => ?_)
            · exact ⟨HR.cell hrc1 (b := b1) (cs := (txC t)) (t := 37) (by simp) 3 rfl, HR.cell hrc1 (b := b1) (cs := (txC t)) (t := 37) (by simp) 4 rfl, HR.cell hrc1 (b := b1) (cs := (txC t)) (t := 37) (by simp) 5 rfl, HR.cell hrc1 (b := b1) (cs := (txC t)) (t := 37) (by simp) 6 rfl, HR.cell hrc1 (b := b1) (cs := (txC t)) (t := 37) (by simp) 1 rfl, HR.cell hrc1 (b := b1) (cs := (txC t)) (t := 37) (by simp) 2 rfl, hrc1⟩
            clear hK K
            try simp only [Act.put, List.setIfInBounds_toArray, List.set_cons_zero, List.set_cons_succ]
            refine tk 5 hHeld ?_; refine tk 6 hHeld ?_; refine tk 7 hHeld ?_; refine tk 8 hHeld ?_
            refine stepH 9 (by kernel_rfl) rfl (by rfl) (fun K hK => ?_)
            go_simp
            refine (cB.out _).mono ?_
            rintro e wc2 ⟨rfl, hbc2⟩
            have hrc2 := HR.next hHeld.2.2.2.2.2.2 hbc2
            refine hK.out _ _ ?_ (fun hHeld => ?_)
            · exact ⟨HR.cell hrc2 (b := b1) (cs := (txC t)) (t := 37) (by simp) 3 rfl, HR.cell hrc2 (b := b1) (cs := (txC t)) (t := 37) (by simp) 4 rfl, HR.cell hrc2 (b := b1) (cs := (txC t)) (t := 37) (by simp) 5 rfl, HR.cell hrc2 (b := b1) (cs := (txC t)) (t := 37) (by simp) 6 rfl, HR.cell hrc2 (b := b1) (cs := (txC t)) (t := 37) (by simp) 1 rfl, HR.cell hrc2 (b := b1) (cs := (txC t)) (t := 37) (by simp) 2 rfl, hrc2⟩
            clear hK K
            try simp only [Act.put, List.setIfInBounds_toArray, List.set_cons_zero, List.set_cons_succ]
            refine tk 10 hHeld ?_; refine tk 11 hHeld ?_; refine sk 12 hHeld ?_; refine sk 13 hHeld ?_; refine sk 14 hHeld ?_; refine sk 15 hHeld ?_; refine sk 16 hHeld ?_; refine sk 17 hHeld ?_; refine sk 18 hHeld ?_; refine sk 19 hHeld ?_; refine tk 20 hHeld ?_; refine tk 21 hHeld ?_; refine sk 22 hHeld ?_; refine sk 23 hHeld ?_; refine sk 24 hHeld ?_; refine sk 25 hHeld ?_; refine sk 26 hHeld ?_; refine sk 27 hHeld ?_; refine sk 28 hHeld ?_; refine sk 29 hHeld ?_; refine tk 30 hHeld ?_; refine tk 31 hHeld ?_
            refine wpAnyH_done (by kernel_rfl) (NoPanic.normal ?_) _
            go_wp2_with fail
            go_meet
            exact ⟨by rw [hR.out]; rfl, Lib.hid hHeld.2.2.2.2.2.2⟩
          · rw [q2] at cB
            cases q3 : (zeroB t.fx t.fy == (t.inn == 0))
            · have hR : Hid (c2 t = false) := Lib.hid (by unfold c2; simp [q1, q2, q3])
              replace q1 := Lib.hid q1
              replace q2 := Lib.hid q2
              refine wp_region_noPanic ?_
              refine wp_region_held_drew (S := fun wq => wq.cell? ⟨b1, 3, none⟩ = some (.int .u64 t.fx) ∧ wq.cell? ⟨b1, 4, none⟩ = some (.int .u64 t.fy) ∧ wq.cell? ⟨b1, 5, none⟩ = some (.int .u64 t.tx) ∧ wq.cell? ⟨b1, 6, none⟩ = some (.int .u64 t.ty) ∧ wq.cell? ⟨b1, 1, none⟩ = some (.int .u64 t.inn) ∧ wq.cell? ⟨b1, 2, none⟩ = some (.int .u64 t.out) ∧ HR w wq [(b1, (txC t), 37)]) (by kernel_rfl) ?_ (fun hHeld => ?_)
              · have hq0 := HR.drew H2.out
                exact ⟨HR.cell hq0 (b := b1) (cs := (txC t)) (t := 37) (by simp) 3 rfl, HR.cell hq0 (b := b1) (cs := (txC t)) (t := 37) (by simp) 4 rfl, HR.cell hq0 (b := b1) (cs := (txC t)) (t := 37) (by simp) 5 rfl, HR.cell hq0 (b := b1) (cs := (txC t)) (t := 37) (by simp) 6 rfl, HR.cell hq0 (b := b1) (cs := (txC t)) (t := 37) (by simp) 1 rfl, HR.cell hq0 (b := b1) (cs := (txC t)) (t := 37) (by simp) 2 rfl, hq0⟩
              refine tk 0 hHeld ?_; refine tk 1 hHeld ?_; refine tk 2 hHeld ?_; refine tk 3 hHeld ?_
              refine stepH 4 (by kernel_rfl) rfl (by rfl) (fun K hK => ?_)
              go_simp
              refine (cA.out _).mono ?_
              rintro e wc1 ⟨rfl, hbc1⟩
              have hrc1 := HR.next hHeld.2.2.2.2.2.2 hbc1
              refine hK.out _ _ ?_ (fun hHeld => ?_)
              · exact ⟨HR.cell hrc1 (b := b1) (cs := (txC t)) (t := 37) (by simp) 3 rfl, HR.cell hrc1 (b := b1) (cs := (txC t)) (t := 37) (by simp) 4 rfl, HR.cell hrc1 (b := b1) (cs := (txC t)) (t := 37) (by simp) 5 rfl, HR.cell hrc1 (b := b1) (cs := (txC t)) (t := 37) (by simp) 6 rfl, HR.cell hrc1 (b := b1) (cs := (txC t)) (t := 37) (by simp) 1 rfl, HR.cell hrc1 (b := b1) (cs := (txC t)) (t := 37) (by simp) 2 rfl, hrc1⟩
              clear hK K
              try simp only [Act.put, List.setIfInBounds_toArray, List.set_cons_zero, List.set_cons_succ]
              refine tk 5 hHeld ?_; refine tk 6 hHeld ?_; refine tk 7 hHeld ?_; refine tk 8 hHeld ?_
              refine stepH 9 (by kernel_rfl) rfl (by rfl) (fun K hK => ?_)
              go_simp
              refine (cB.out _).mono ?_
              rintro e wc2 ⟨rfl, hbc2⟩
              have hrc2 := HR.next hHeld.2.2.2.2.2.2 hbc2
              refine hK.out _ _ ?_ (fun hHeld => ?_)
              · exact ⟨HR.cell hrc2 (b := b1) (cs := (txC t)) (t := 37) (by simp) 3 rfl, HR.cell hrc2 (b := b1) (cs := (txC t)) (t := 37) (by simp) 4 rfl, HR.cell hrc2 (b := b1) (cs := (txC t)) (t := 37) (by simp) 5 rfl, HR.cell hrc2 (b := b1) (cs := (txC t)) (t := 37) (by simp) 6 rfl, HR.cell hrc2 (b := b1) (cs := (txC t)) (t := 37) (by simp) 1 rfl, HR.cell hrc2 (b := b1) (cs := (txC t)) (t := 37) (by simp) 2 rfl, hrc2⟩
              clear hK K
              try simp only [Act.put, List.setIfInBounds_toArray, List.set_cons_zero, List.set_cons_succ]
              refine tk 10 hHeld ?_; refine tk 11 hHeld ?_; refine tk 12 hHeld ?_; refine tk 13 hHeld ?_; refine tk 16 hHeld ?_; refine tk 17 hHeld ?_; refine tk 18 hHeld ?_
              refine stepH 14 (by kernel_rfl) rfl (by rfl) (fun K hK => ?_)
              go_simp
              refine (tZero _).mono ?_
              rintro e wc3 ⟨rfl, hbc3⟩
              have hrc3 := HR.next hHeld.2.2.2.2.2.2 hbc3
              refine hK.out _ _ ?_ (fun hHeld => ?_)
              · exact ⟨HR.cell hrc3 (b := b1) (cs := (txC t)) (t := 37) (by simp) 3 rfl, HR.cell hrc3 (b := b1) (cs := (txC t)) (t := 37) (by simp) 4 rfl, HR.cell hrc3 (b := b1) (cs := (txC t)) (t := 37) (by simp) 5 rfl, HR.cell hrc3 (b := b1) (cs := (txC t)) (t := 37) (by simp) 6 rfl, HR.cell hrc3 (b := b1) (cs := (txC t)) (t := 37) (by simp) 1 rfl, HR.cell hrc3 (b := b1) (cs := (txC t)) (t := 37) (by simp) 2 rfl, hrc3⟩
              clear hK K
              try simp only [Act.put, List.setIfInBounds_toArray, List.set_cons_zero, List.set_cons_succ]
              refine takeH 15 (fun _ _ _ _ _ h => h) (by kernel_rfl) hHeld rfl (by kernel_rfl) (by rfl) (v := .bool (zeroB t.fx t.fy)) ?_ ?_
              · intro wz hz
                (try dsimp only at hz)
                go_simp
                exact zero_if _ _ _
              try simp only [Act.put, List.setIfInBounds_toArray, List.set_cons_zero, List.set_cons_succ]
              refine takeH 19 (fun _ _ _ _ _ h => h) (by kernel_rfl) hHeld rfl (by kernel_rfl) (by rfl) (v := .bool false) ?_ ?_
              · intro wz hz
                (try dsimp only at hz)
                go_simp
                try rw [q3]
              try simp only [Act.put, List.setIfInBounds_toArray, List.set_cons_zero, List.set_cons_succ]
              refine tk 20 hHeld ?_; refine tk 21 hHeld ?_; refine sk 22 hHeld ?_; refine sk 23 hHeld ?_; refine sk 24 hHeld ?_; refine sk 25 hHeld ?_; refine sk 26 hHeld ?_; refine sk 27 hHeld ?_; refine sk 28 hHeld ?_; refine sk 29 hHeld ?_; refine tk 30 hHeld ?_; refine tk 31 hHeld ?_
              refine wpAnyH_done (by kernel_rfl) (NoPanic.normal ?_) _
              go_wp2_with fail
              go_meet
              exact ⟨by rw [hR.out]; rfl, Lib.hid hHeld.2.2.2.2.2.2⟩
            · cases q4 : (zeroB t.tx t.ty == (t.out == 0))
              · have hR : Hid (c2 t = false) := Lib.hid (by unfold c2; simp [q1, q2, q3, q4])
                replace q1 := Lib.hid q1
                replace q2 := Lib.hid q2
                refine wp_region_noPanic ?_
                refine wp_region_held_drew (S := fun wq => wq.cell? ⟨b1, 3, none⟩ = some (.int .u64 t.fx) ∧ wq.cell? ⟨b1, 4, none⟩ = some (.int .u64 t.fy) ∧ wq.cell? ⟨b1, 5, none⟩ = some (.int .u64 t.tx) ∧ wq.cell? ⟨b1, 6, none⟩ = some (.int .u64 t.ty) ∧ wq.cell? ⟨b1, 1, none⟩ = some (.int .u64 t.inn) ∧ wq.cell? ⟨b1, 2, none⟩ = some (.int .u64 t.out) ∧ HR w wq [(b1, (txC t), 37)]) (by kernel_rfl) ?_ (fun hHeld => ?_)
                · have hq0 := HR.drew H2.out
                  exact ⟨HR.cell hq0 (b := b1) (cs := (txC t)) (t := 37) (by simp) 3 rfl, HR.cell hq0 (b := b1) (cs := (txC t)) (t := 37) (by simp) 4 rfl, HR.cell hq0 (b := b1) (cs := (txC t)) (t := 37) (by simp) 5 rfl, HR.cell hq0 (b := b1) (cs := (txC t)) (t := 37) (by simp) 6 rfl, HR.cell hq0 (b := b1) (cs := (txC t)) (t := 37) (by simp) 1 rfl, HR.cell hq0 (b := b1) (cs := (txC t)) (t := 37) (by simp) 2 rfl, hq0⟩
                refine tk 0 hHeld ?_; refine tk 1 hHeld ?_; refine tk 2 hHeld ?_; refine tk 3 hHeld ?_
                refine stepH 4 (by kernel_rfl) rfl (by rfl) (fun K hK => ?_)
                go_simp
                refine (cA.out _).mono ?_
                rintro e wc1 ⟨rfl, hbc1⟩
                have hrc1 := HR.next hHeld.2.2.2.2.2.2 hbc1
                refine hK.out _ _ ?_ (fun hHeld => ?_)
                · exact ⟨HR.cell hrc1 (b := b1) (cs := (txC t)) (t := 37) (by simp) 3 rfl, HR.cell hrc1 (b := b1) (cs := (txC t)) (t := 37) (by simp) 4 rfl, HR.cell hrc1 (b := b1) (cs := (txC t)) (t := 37) (by simp) 5 rfl, HR.cell hrc1 (b := b1) (cs := (txC t)) (t := 37) (by simp) 6 rfl, HR.cell hrc1 (b := b1) (cs := (txC t)) (t := 37) (by simp) 1 rfl, HR.cell hrc1 (b := b1) (cs := (txC t)) (t := 37) (by simp) 2 rfl, hrc1⟩
                clear hK K
                try simp only [Act.put, List.setIfInBounds_toArray, List.set_cons_zero, List.set_cons_succ]
                refine tk 5 hHeld ?_; refine tk 6 hHeld ?_; refine tk 7 hHeld ?_; refine tk 8 hHeld ?_
                refine stepH 9 (by kernel_rfl) rfl (by rfl) (fun K hK => ?_)
                go_simp
                refine (cB.out _).mono ?_
                rintro e wc2 ⟨rfl, hbc2⟩
                have hrc2 := HR.next hHeld.2.2.2.2.2.2 hbc2
                refine hK.out _ _ ?_ (fun hHeld => ?_)
                · exact ⟨HR.cell hrc2 (b := b1) (cs := (txC t)) (t := 37) (by simp) 3 rfl, HR.cell hrc2 (b := b1) (cs := (txC t)) (t := 37) (by simp) 4 rfl, HR.cell hrc2 (b := b1) (cs := (txC t)) (t := 37) (by simp) 5 rfl, HR.cell hrc2 (b := b1) (cs := (txC t)) (t := 37) (by simp) 6 rfl, HR.cell hrc2 (b := b1) (cs := (txC t)) (t := 37) (by simp) 1 rfl, HR.cell hrc2 (b := b1) (cs := (txC t)) (t := 37) (by simp) 2 rfl, hrc2⟩
                clear hK K
                try simp only [Act.put, List.setIfInBounds_toArray, List.set_cons_zero, List.set_cons_succ]
                refine tk 10 hHeld ?_; refine tk 11 hHeld ?_; refine tk 12 hHeld ?_; refine tk 13 hHeld ?_; refine tk 16 hHeld ?_; refine tk 17 hHeld ?_; refine tk 18 hHeld ?_
                refine stepH 14 (by kernel_rfl) rfl (by rfl) (fun K hK => ?_)
                go_simp
                refine (tZero _).mono ?_
                rintro e wc3 ⟨rfl, hbc3⟩
                have hrc3 := HR.next hHeld.2.2.2.2.2.2 hbc3
                refine hK.out _ _ ?_ (fun hHeld => ?_)
                · exact ⟨HR.cell hrc3 (b := b1) (cs := (txC t)) (t := 37) (by simp) 3 rfl, HR.cell hrc3 (b := b1) (cs := (txC t)) (t := 37) (by simp) 4 rfl, HR.cell hrc3 (b := b1) (cs := (txC t)) (t := 37) (by simp) 5 rfl, HR.cell hrc3 (b := b1) (cs := (txC t)) (t := 37) (by simp) 6 rfl, HR.cell hrc3 (b := b1) (cs := (txC t)) (t := 37) (by simp) 1 rfl, HR.cell hrc3 (b := b1) (cs := (txC t)) (t := 37) (by simp) 2 rfl, hrc3⟩
                clear hK K
                try simp only [Act.put, List.setIfInBounds_toArray, List.set_cons_zero, List.set_cons_succ]
                refine takeH 15 (fun _ _ _ _ _ h => h) (by kernel_rfl) hHeld rfl (by kernel_rfl) (by rfl) (v := .bool (zeroB t.fx t.fy)) ?_ ?_
                · intro wz hz
                  (try dsimp only at hz)
                  go_simp
                  exact zero_if _ _ _
                try simp only [Act.put, List.setIfInBounds_toArray, List.set_cons_zero, List.set_cons_succ]
                refine takeH 19 (fun _ _ _ _ _ h => h) (by kernel_rfl) hHeld rfl (by kernel_rfl) (by rfl) (v := .bool true) ?_ ?_
                · intro wz hz
                  (try dsimp only at hz)
                  go_simp
                  try rw [q3]
                try simp only [Act.put, List.setIfInBounds_toArray, List.set_cons_zero, List.set_cons_succ]
                refine tk 20 hHeld ?_; refine tk 21 hHeld ?_; refine tk 22 hHeld ?_; refine tk 23 hHeld ?_; refine tk 26 hHeld ?_; refine tk 27 hHeld ?_; refine tk 28 hHeld ?_
                refine stepH 24 (by kernel_rfl) rfl (by rfl) (fun K hK => ?_)
                go_simp
                refine (tZero _).mono ?_
                rintro e wc4 ⟨rfl, hbc4⟩
                have hrc4 := HR.next hHeld.2.2.2.2.2.2 hbc4
                refine hK.out _ _ ?_ (fun hHeld => ?_)
                · exact ⟨HR.cell hrc4 (b := b1) (cs := (txC t)) (t := 37) (by simp) 3 rfl, HR.cell hrc4 (b := b1) (cs := (txC t)) (t := 37) (by simp) 4 rfl, HR.cell hrc4 (b := b1) (cs := (txC t)) (t := 37) (by simp) 5 rfl, HR.cell hrc4 (b := b1) (cs := (txC t)) (t := 37) (by simp) 6 rfl, HR.cell hrc4 (b := b1) (cs := (txC t)) (t := 37) (by simp) 1 rfl, HR.cell hrc4 (b := b1) (cs := (txC t)) (t := 37) (by simp) 2 rfl, hrc4⟩
                clear hK K
                try simp only [Act.put, List.setIfInBounds_toArray, List.set_cons_zero, List.set_cons_succ]
                refine takeH 25 (fun _ _ _ _ _ h => h) (by kernel_rfl) hHeld rfl (by kernel_rfl) (by rfl) (v := .bool (zeroB t.tx t.ty)) ?_ ?_
                · intro wz hz
                  (try dsimp only at hz)
                  go_simp
                  exact zero_if _ _ _
                try simp only [Act.put, List.setIfInBounds_toArray, List.set_cons_zero, List.set_cons_succ]
                refine takeH 29 (fun _ _ _ _ _ h => h) (by kernel_rfl) hHeld rfl (by kernel_rfl) (by rfl) (v := .bool false) ?_ ?_
                · intro wz hz
                  (try dsimp only at hz)
                  go_simp
                  try rw [q4]
                try simp only [Act.put, List.setIfInBounds_toArray, List.set_cons_zero, List.set_cons_succ]
                refine tk 30 hHeld ?_; refine tk 31 hHeld ?_
                refine wpAnyH_done (by kernel_rfl) (NoPanic.normal ?_) _
                go_wp2_with fail
                go_meet
                exact ⟨by rw [hR.out]; rfl, Lib.hid hHeld.2.2.2.2.2.2⟩
              · have hR : Hid (c2 t = true) := Lib.hid (by unfold c2; simp [q1, q2, q3, q4])
                exact absurd hAA.out (by rw [hb.out, hR.out]; decide)
    case rest =>
      clear H2
      obtain ⟨rfl, H2⟩ := hcut
      rw [show (b && c2 t) = false by rw [← hb.out]; exact hAA.out]
      have k_n0x := HR.cell H2.out (b := b1) (cs := (txC t)) (t := 37) (by simp) 12 rfl
      have k_n0y := HR.cell H2.out (b := b1) (cs := (txC t)) (t := 37) (by simp) 13 rfl
      have k_S0 := HR.cell H2.out (b := b1) (cs := (txC t)) (t := 37) (by simp) 14 rfl
      have k_n1x := HR.cell H2.out (b := b1) (cs := (txC t)) (t := 37) (by simp) 15 rfl
      have k_n1y := HR.cell H2.out (b := b1) (cs := (txC t)) (t := 37) (by simp) 16 rfl
      have k_S1 := HR.cell H2.out (b := b1) (cs := (txC t)) (t := 37) (by simp) 17 rfl
      go_wp2_with fail
      clear k_n0x k_n0y k_S0 k_n1x k_n1y k_S1
      go_loopw [4, 69] (fun q1 q2 wr => ∃ j : Nat, j ≤ 2 ∧ q2 = .int .i64 (j : Int) ∧ q1 = .bool false ∧ Hid (HR w wr [(b1, (txC t), 37)])) (fun _ q2 _ => (2 - intOf q2).toNat)
      case atStart => exact ⟨0, by omega, rfl, rfl, H2⟩
      case round =>
        clear H2
        obtain ⟨j, hj, rfl, rfl, H2⟩ := hrel
        rcases (by omega : j = 0 ∨ j = 1 ∨ j = 2) with rfl | rfl | rfl
        · have hix := idx_n0
          go_upto_region 7 with fail
          clear hix
          have H6a := H2.out.new #[.int .u64 t.n0x, .int .u64 t.n0y, .slice t.s0 t.l0 t.c0] 28
          generalize wr.alloc (.cells #[.int .u64 t.n0x, .int .u64 t.n0y, .slice t.s0 t.l0 t.c0] 28) = w6 at H6a ⊢
          generalize wr.heap.size = b6 at H6a ⊢
          have H6 := Lib.hid H6a
          clear H6a
          refine wp_region_noPanic ?_
          refine wp_region_held_drew (S := fun wq => wq.cell? ⟨b6, 0, none⟩ = some (.int .u64 t.n0x) ∧ wq.cell? ⟨b6, 1, none⟩ = some (.int .u64 t.n0y) ∧ wq.cell? ⟨b6, 2, none⟩ = some (.slice t.s0 t.l0 t.c0) ∧ HR w wq [(b6, #[.int .u64 t.n0x, .int .u64 t.n0y, .slice t.s0 t.l0 t.c0], 28), (b1, (txC t), 37)]) (by kernel_rfl) ?_ (fun hHeld => ?_)
          · have hq0 := HR.drew H6.out
            exact ⟨HR.cell hq0 (b := b6) (cs := #[.int .u64 t.n0x, .int .u64 t.n0y, .slice t.s0 t.l0 t.c0]) (t := 28) (by simp) 0 rfl, HR.cell hq0 (b := b6) (cs := #[.int .u64 t.n0x, .int .u64 t.n0y, .slice t.s0 t.l0 t.c0]) (t := 28) (by simp) 1 rfl, HR.cell hq0 (b := b6) (cs := #[.int .u64 t.n0x, .int .u64 t.n0y, .slice t.s0 t.l0 t.c0]) (t := 28) (by simp) 2 rfl, hq0⟩
          refine tk 0 hHeld ?_; refine tk 1 hHeld ?_; refine sk 2 hHeld ?_; refine sk 3 hHeld ?_; refine sk 4 hHeld ?_; refine tk 5 hHeld ?_; refine tk 6 hHeld ?_; refine sk 7 hHeld ?_; refine sk 8 hHeld ?_; refine sk 9 hHeld ?_; refine sk 10 hHeld ?_; refine tk 11 hHeld ?_; refine tk 12 hHeld ?_; refine sk 13 hHeld ?_; refine sk 14 hHeld ?_; refine sk 15 hHeld ?_; refine sk 16 hHeld ?_; refine tk 17 hHeld ?_; refine tk 18 hHeld ?_
          refine wpAnyH_done (by kernel_rfl) (NoPanic.normal ?_) _
          have H7 := Lib.hid (HR.sub (qs := [(b1, (txC t), 37)]) hHeld.2.2.2 (by simp))
          clear hHeld H6 H2
          go_wp2_with fail
          go_roundw
          case rel => exact ⟨1, by omega, rfl, rfl, H7⟩
          case measure => simp [intOf]
        · have hix := idx_n1
          go_upto_region 7 with fail
          clear hix
          have H6a := H2.out.new #[.int .u64 t.n1x, .int .u64 t.n1y, .slice t.s1 t.l1 t.c1] 28
          generalize wr.alloc (.cells #[.int .u64 t.n1x, .int .u64 t.n1y, .slice t.s1 t.l1 t.c1] 28) = w6 at H6a ⊢
          generalize wr.heap.size = b6 at H6a ⊢
          have H6 := Lib.hid H6a
          clear H6a
          refine wp_region_noPanic ?_
          refine wp_region_held_drew (S := fun wq => wq.cell? ⟨b6, 0, none⟩ = some (.int .u64 t.n1x) ∧ wq.cell? ⟨b6, 1, none⟩ = some (.int .u64 t.n1y) ∧ wq.cell? ⟨b6, 2, none⟩ = some (.slice t.s1 t.l1 t.c1) ∧ HR w wq [(b6, #[.int .u64 t.n1x, .int .u64 t.n1y, .slice t.s1 t.l1 t.c1], 28), (b1, (txC t), 37)]) (by kernel_rfl) ?_ (fun hHeld => ?_)
          · have hq0 := HR.drew H6.out
            exact ⟨HR.cell hq0 (b := b6) (cs := #[.int .u64 t.n1x, .int .u64 t.n1y, .slice t.s1 t.l1 t.c1]) (t := 28) (by simp) 0 rfl, HR.cell hq0 (b := b6) (cs := #[.int .u64 t.n1x, .int .u64 t.n1y, .slice t.s1 t.l1 t.c1]) (t := 28) (by simp) 1 rfl, HR.cell hq0 (b := b6) (cs := #[.int .u64 t.n1x, .int .u64 t.n1y, .slice t.s1 t.l1 t.c1]) (t := 28) (by simp) 2 rfl, hq0⟩
          refine tk 0 hHeld ?_; refine tk 1 hHeld ?_; refine sk 2 hHeld ?_; refine sk 3 hHeld ?_; refine sk 4 hHeld ?_; refine tk 5 hHeld ?_; refine tk 6 hHeld ?_; refine sk 7 hHeld ?_; refine sk 8 hHeld ?_; refine sk 9 hHeld ?_; refine sk 10 hHeld ?_; refine tk 11 hHeld ?_; refine tk 12 hHeld ?_; refine sk 13 hHeld ?_; refine sk 14 hHeld ?_; refine sk 15 hHeld ?_; refine sk 16 hHeld ?_; refine tk 17 hHeld ?_; refine tk 18 hHeld ?_
          refine wpAnyH_done (by kernel_rfl) (NoPanic.normal ?_) _
          have H7 := Lib.hid (HR.sub (qs := [(b1, (txC t), 37)]) hHeld.2.2.2 (by simp))
          clear hHeld H6 H2
          go_wp2_with fail
          go_roundw
          case rel => exact ⟨2, by omega, rfl, rfl, H7⟩
          case measure => simp [intOf]
        · go_upto_region 9 with fail
          go_upto_region 10 with fail
          refine wp_region_noPanic ?_
          refine wp_region_held_drew (S := fun wq => wq.cell? ⟨b1, 1, none⟩ = some (.int .u64 t.inn) ∧ wq.cell? ⟨b1, 7, none⟩ = some (.int .u64 t.seq) ∧ wq.cell? ⟨b1, 29, none⟩ = some (.int .u64 t.gx) ∧ wq.cell? ⟨b1, 30, none⟩ = some (.int .u64 t.gy) ∧ wq.cell? ⟨b1, 31, none⟩ = some (.int .u64 t.gz) ∧ HR w wq [(b1, (txC t), 37)]) (by kernel_rfl) ?_ (fun hHeld => ?_)
          · have hq0 := HR.drew H2.out
            exact ⟨HR.cell hq0 (b := b1) (cs := (txC t)) (t := 37) (by simp) 1 rfl, HR.cell hq0 (b := b1) (cs := (txC t)) (t := 37) (by simp) 7 rfl, HR.cell hq0 (b := b1) (cs := (txC t)) (t := 37) (by simp) 29 rfl, HR.cell hq0 (b := b1) (cs := (txC t)) (t := 37) (by simp) 30 rfl, HR.cell hq0 (b := b1) (cs := (txC t)) (t := 37) (by simp) 31 rfl, hq0⟩
          refine tk 0 hHeld ?_; refine tk 1 hHeld ?_; refine tk 2 hHeld ?_; refine sk 3 hHeld ?_; refine sk 4 hHeld ?_; refine sk 5 hHeld ?_; refine sk 6 hHeld ?_; refine sk 7 hHeld ?_; refine sk 8 hHeld ?_; refine sk 9 hHeld ?_; refine sk 10 hHeld ?_; refine sk 11 hHeld ?_; refine sk 12 hHeld ?_; refine sk 13 hHeld ?_; refine sk 14 hHeld ?_; refine sk 15 hHeld ?_; refine sk 16 hHeld ?_; refine tk 17 hHeld ?_
          refine wpAnyH_done (by kernel_rfl) (NoPanic.normal ?_) _
          have hL := Lib.hid hHeld.2.2.2.2.2.2
          clear hHeld
          go_wp2_with fail
          go_ret
          exact ⟨rfl, hL.out⟩

end Go.Proofs.Ytkfimfjjmdjbdaa
/- Walks: package tx: whether a transaction may be. -/
namespace Go.Proofs.Ytkfimfjjmdjbdaa
open Go.RowKit

theorem tCheck (t : TxD) (h : TxOk t) (w : World) : Calls Try.prog 9 #[txV t] w (ChkSaid (mayB t) w) := by
  unfold mayB
  cases h1 : c1 t
  · exact tCheckA t h (by rw [h1]; rfl) w
  · cases h2 : c2 t
    · exact tCheckA t h (by rw [h1, h2]; rfl) w
    · rw [Bool.true_and, Bool.true_and]
      cases h3 : c3 t.n0x t.n0y t.l0
      · exact tCheckB t h h1 h2 (by show ((true && c3 t.n0x t.n0y t.l0) && _) = false; rw [h3]; rfl) w
      · cases h4 : c3 t.n1x t.n1y t.l1
        · exact tCheckB t h h1 h2 (by show ((true && c3 t.n0x t.n0y t.l0) && c3 t.n1x t.n1y t.l1) = false; rw [h3, h4]; rfl) w
        · rw [Bool.true_and, Bool.true_and]
          exact tCheckC t h h1 h2 ⟨h3, h4⟩ w

end Go.Proofs.Ytkfimfjjmdjbdaa
/- Walks: package tx: a transaction's bytes. -/
namespace Obol
def be8s (L : List Nat) : List Nat := L.flatMap be8
theorem be8s_take {L : List Nat} {j : Nat} (h : j < L.length) : be8s (L.take (j + 1)) = be8s (L.take j) ++ be8 (L.getD j 0) := by
  unfold be8s
  rw [List.take_add_one, List.getElem?_eq_getElem h, List.flatMap_append, List.getD_eq_getElem?_getD, List.getElem?_eq_getElem h]
  simp
theorem be8s_len (L : List Nat) : (be8s L).length = 8 * L.length := by
  induction L with
  | nil => rfl
  | cons x L ih => show (be8 x ++ be8s L).length = _; rw [List.length_append, ih, List.length_cons]; show 8 + _ = _; omega
theorem be8s_take_len (L : List Nat) (j : Nat) : (be8s (L.take j)).length ≤ 8 * L.length := by rw [be8s_len, List.length_take]; omega
end Obol
namespace Go.Proofs.Ytkfimfjjmdjbdaa
open Go.RowKit
set_option linter.unusedVariables false

abbrev edC (x y : Int) : List Nat := Obol.be8 (Obol.codeN (x.toNat, y.toNat))
/-- The bytes ahead of the Answers. -/
def hd1 (t : TxD) : List Nat := Obol.be8s [t.root.toNat, t.inn.toNat, t.out.toNat]
def hd2 (t : TxD) : List Nat := ((hd1 t ++ edC t.fx t.fy) ++ edC t.tx t.ty) ++ Obol.be8 t.seq.toNat
def hd3 (t : TxD) : List Nat := hd2 t ++ Obol.be8s [t.e0.toNat, t.e1.toNat, t.m0.toNat, t.m1.toNat]
def hd4 (t : TxD) (L0 L1 : List Nat) : Nat → List Nat
  | 0 => hd3 t
  | 1 => (hd3 t ++ edC t.n0x t.n0y) ++ L0
  | _ => (((hd3 t ++ edC t.n0x t.n0y) ++ L0) ++ edC t.n1x t.n1y) ++ L1
def bodL (t : TxD) (L0 L1 : List Nat) : List Nat := ((hd4 t L0 L1 2 ++ Obol.be8 t.a0.toNat) ++ Obol.be8 t.a1.toNat) ++ prL t.ia t.xa t.ya t.ib t.xb t.yb t.ic t.xc t.yc 3
def wriL (t : TxD) (L0 L1 : List Nat) : List Nat := (bodL t L0 L1 ++ edC t.gx t.gy) ++ Obol.be8 t.gz.toNat
theorem be8_l (n : Nat) : (Obol.be8 n).length = 8 := rfl
theorem hd1_len (t : TxD) : (hd1 t).length = 24 := by unfold hd1; rw [Obol.be8s_len]; rfl
theorem hd2_len (t : TxD) : (hd2 t).length = 48 := by unfold hd2; simp only [List.length_append, be8_l, hd1_len]
theorem hd3_len (t : TxD) : (hd3 t).length = 80 := by unfold hd3; rw [List.length_append, hd2_len, Obol.be8s_len]; rfl
theorem hd4_len (t : TxD) {L0 L1 : List Nat} (h0 : L0.length = 32) (h1 : L1.length = 32) : (hd4 t L0 L1 2).length = 160 := by unfold hd4; simp only [List.length_append, be8_l, hd3_len, h0, h1]
theorem own_cells {w : World} {base g n c : Nat} {L : List Nat} (h : OwnU w base (.slice (some ⟨g, 0, none⟩) n c) L) : ∃ cur, Row w g cur 22 ∧ ∀ i, i < L.length → cur[i]? = some (.int .u64 ((L.getD i 0 : Nat) : Int)) := by
  obtain ⟨g', cap', cur, h1, h2, h3, h4, h5, h6, h7⟩ := h.row (by simp)
  simp only [Value.slice.injEq, Option.some.injEq, Addr.mk.injEq, and_true] at h1
  obtain ⟨rfl, -⟩ := h1
  refine ⟨cur, h3, fun i hi => ?_⟩
  have h8 : (cur.toList.take L.length)[i]? = (N64 L)[i]? := by rw [h7]
  rw [List.getElem?_take_of_lt hi] at h8
  rw [← Array.getElem?_toList, h8]
  simp only [List.getElem?_map, List.getElem?_eq_getElem hi, List.getD_eq_getElem?_getD]
  rfl
theorem row_u64 {w : World} {g : Nat} {cur : Array Value} {t : TypeId} (h : Row w g cur t) (L : List Nat) (hc : ∀ i, i < L.length → cur[i]? = some (.int .u64 ((L.getD i 0 : Nat) : Int))) {i : Nat} (hi : i < L.length) : w.cell? ⟨g, i, none⟩ = some (.int .u64 ((L.getD i 0 : Nat) : Int)) := h.cell i (hc i hi)
def numsM (t : TxD) : List Nat := [t.e0.toNat, t.e1.toNat, t.m0.toNat, t.m1.toNat]
theorem numsM_lt {t : TxD} (h : TxOk t) (j : Nat) : (numsM t).getD j 0 < 18446744073709551616 := by
  have h1 := h.e01
  have h2 := h.e11
  have h3 := h.m01
  have h4 := h.m11
  unfold numsM
  match j with
  | 0 => show t.e0.toNat < _; omega
  | 1 => show t.e1.toNat < _; omega
  | 2 => show t.m0.toNat < _; omega
  | 3 => show t.m1.toNat < _; omega
  | _ + 4 => exact (by decide : 0 < 18446744073709551616)
theorem parts2_ok (t : TxD) (h : TxOk t) (W : World) (b1 : Nat) (hR : Row W b1 (txC t) 37) : ∀ j (hj : j < ([⟨b1, 8, 2, 2, [t.e0.toNat, t.e1.toNat]⟩, ⟨b1, 10, 2, 2, [t.m0.toNat, t.m1.toNat]⟩] : List Part).length), (([⟨b1, 8, 2, 2, [t.e0.toNat, t.e1.toNat]⟩, ⟨b1, 10, 2, 2, [t.m0.toNat, t.m1.toNat]⟩] : List Part)[j]).L.length = (([⟨b1, 8, 2, 2, [t.e0.toNat, t.e1.toNat]⟩, ⟨b1, 10, 2, 2, [t.m0.toNat, t.m1.toNat]⟩] : List Part)[j]).n ∧ UL W (([⟨b1, 8, 2, 2, [t.e0.toNat, t.e1.toNat]⟩, ⟨b1, 10, 2, 2, [t.m0.toNat, t.m1.toNat]⟩] : List Part)[j]).g (([⟨b1, 8, 2, 2, [t.e0.toNat, t.e1.toNat]⟩, ⟨b1, 10, 2, 2, [t.m0.toNat, t.m1.toNat]⟩] : List Part)[j]).o (([⟨b1, 8, 2, 2, [t.e0.toNat, t.e1.toNat]⟩, ⟨b1, 10, 2, 2, [t.m0.toNat, t.m1.toNat]⟩] : List Part)[j]).L ∧ (([⟨b1, 8, 2, 2, [t.e0.toNat, t.e1.toNat]⟩, ⟨b1, 10, 2, 2, [t.m0.toNat, t.m1.toNat]⟩] : List Part)[j]).g < W.heap.size := by
  intro j hj
  have two : ∀ (o : Nat) (x y : Int), 0 ≤ x → 0 ≤ y → W.cell? ⟨b1, o, none⟩ = some (.int .u64 x) → W.cell? ⟨b1, o + 1, none⟩ = some (.int .u64 y) → UL W b1 o [x.toNat, y.toNat] := fun o x y hx hy h1 h2 i hi => by
    match i, hi with
    | 0, _ =>
      show W.cell? ⟨b1, o, none⟩ = some (.int .u64 ((x.toNat : Nat) : Int))
      rw [Int.toNat_of_nonneg hx]; exact h1
    | 1, _ =>
      show W.cell? ⟨b1, o + 1, none⟩ = some (.int .u64 ((y.toNat : Nat) : Int))
      rw [Int.toNat_of_nonneg hy]; exact h2
  match j, hj with
  | 0, _ => exact ⟨rfl, two 8 t.e0 t.e1 h.e00 h.e10 (hR.cell 8 rfl) (hR.cell 9 rfl), hR.lt⟩
  | 1, _ => exact ⟨rfl, two 10 t.m0 t.m1 h.m00 h.m10 (hR.cell 10 rfl) (hR.cell 11 rfl), hR.lt⟩
/-- The bodies of the notes. -/
structure Bods (t : TxD) (L0 L1 : List Nat) (base : Nat) (w : World) : Prop where
  n0 : L0.length = t.l0
  n1 : L1.length = t.l1
  b0 : SlI base w t.s0 t.c0 L0
  b1 : SlI base w t.s1 t.c1 L1
theorem Bods.below {t : TxD} {L0 L1 : List Nat} {base : Nat} {w w' : World} (h : Bods t L0 L1 base w) (hb : Below base w w') : Bods t L0 L1 base w' := ⟨h.n0, h.n1, h.b0.below hb, h.b1.below hb⟩
theorem Bods.at {t : TxD} {L0 L1 : List Nat} {w w' : World} (h : Bods t L0 L1 w.heap.size w) (hb : Below w.heap.size w w') : Bods t L0 L1 w'.heap.size w' :=
  have up : ∀ {a c L}, SlI w.heap.size w' a c L → SlI w'.heap.size w' a c L := fun h => ⟨h.le, h.cap, h.no, fun h0 => by
    obtain ⟨b, o, h1, h2, h3⟩ := h.bl h0
    exact ⟨b, o, h1, Nat.lt_of_lt_of_le h2 hb.size, h3⟩⟩
  ⟨h.n0, h.n1, up (h.b0.below hb), up (h.b1.below hb)⟩
set_option maxRecDepth 100000 in
set_option maxHeartbeats 100000000 in
theorem tHead (t : TxD) (L0 L1 : List Nat) (h : TxOk t) (pf : Obol.isN (t.fx.toNat, t.fy.toNat) = true) (pt : Obol.isN (t.tx.toNat, t.ty.toNat) = true) (pn0 : Obol.isN (t.n0x.toNat, t.n0y.toNat) = true) (pn1 : Obol.isN (t.n1x.toNat, t.n1y.toNat) = true) (hl0 : t.l0 = 32) (hl1 : t.l1 = 32) (w : World) (hB : Bods t L0 L1 w.heap.size w) :
    Calls Try.prog 29 #[txV t] w fun e w' => ∃ v, e = .returned v ∧ OwnB w' w.heap.size v (hd4 t L0 L1 2) ∧ Below w.heap.size w w' := by
  have hok := Lib.hid h
  have hBo := Lib.hid hB
  have hLn : Hid (L0.length = 32 ∧ L1.length = 32) := Lib.hid ⟨hB.n0.trans hl0, hB.n1.trans hl1⟩
  have hpp := Lib.hid (And.intro pf (And.intro pt (And.intro pn0 pn1)))
  have hll := Lib.hid (And.intro hl0 hl1)
  clear h hB pf pt pn0 pn1 hl0 hl1
  go_enter Try.func29, Try.ntmps29
  go_upto_region 2 with fail
  have H0 := (HR.refl w).new (txC t) 37
  generalize w.alloc (.cells (txC t) 37) = w2 at H0 ⊢
  generalize hb1 : w.heap.size = b1 at H0 ⊢
  have hbs : Hid (w.heap.size = b1) := Lib.hid hb1
  have H1 : Hid (HR w w2 [(b1, (txC t), 37)]) := Lib.hid H0
  clear hb1 H0
  have k_root := HR.cell H1.out (b := b1) (cs := (txC t)) (t := 37) (by simp) 0 rfl
  have k_inn := HR.cell H1.out (b := b1) (cs := (txC t)) (t := 37) (by simp) 1 rfl
  have k_out := HR.cell H1.out (b := b1) (cs := (txC t)) (t := 37) (by simp) 2 rfl
  go_upto_region 3 with fail
  have H2n := H1.out.new #[.int .u64 t.root, .int .u64 t.inn, .int .u64 t.out] 22
  clear k_root k_inn k_out
  generalize w2.alloc (.cells #[.int .u64 t.root, .int .u64 t.inn, .int .u64 t.out] 22) = w3 at H2n ⊢
  generalize w2.heap.size = bn at H2n ⊢
  have H2 := Lib.hid H2n
  clear H2n H1
  go_loopw [3, 18] (fun q1 q2 wr => ∃ j : Nat, j ≤ 3 ∧ q2 = .int .i64 (j : Int) ∧ Hid (OwnB wr w.heap.size q1 (Obol.be8s ([t.root.toNat, t.inn.toNat, t.out.toNat].take j)) ∧ HR w wr [(bn, #[.int .u64 t.root, .int .u64 t.inn, .int .u64 t.out], 22), (b1, (txC t), 37)])) (fun _ q2 _ => (3 - intOf q2).toNat)
  case atStart => exact ⟨0, by omega, rfl, Lib.hid ⟨OwnB.nil _ _, H2.out⟩⟩
  case round =>
    clear H2
    obtain ⟨j, hj, rfl, HI⟩ := hrel
    by_cases hj3 : j < 3
    · obtain ⟨k, hk⟩ : ∃ k : Int, k = (([t.root, t.inn, t.out] : List Int).getD j 0) := ⟨_, rfl⟩
      have k0 : 0 ≤ k := by
        rw [hk]
        match j, hj3 with
        | 0, _ => exact hok.out.root0
        | 1, _ => exact hok.out.inn0
        | 2, _ => exact hok.out.out0
      have k1 : k ≤ 18446744073709551615 := by
        rw [hk]
        match j, hj3 with
        | 0, _ => exact hok.out.root1
        | 1, _ => exact hok.out.inn1
        | 2, _ => exact hok.out.out1
      have kn : Hid (k.toNat = [t.root.toNat, t.inn.toNat, t.out.toNat].getD j 0) := Lib.hid (by
        rw [hk]
        match j, hj3 with
        | 0, _ => rfl
        | 1, _ => rfl
        | 2, _ => rfl)
      have hc : wr.cell? ⟨bn, j, none⟩ = some (.int .u64 k) := HI.out.2.cell (b := bn) (cs := #[.int .u64 t.root, .int .u64 t.inn, .int .u64 t.out]) (t := 22) (by simp) j (by
        rw [hk]
        match j, hj3 with
        | 0, _ => rfl
        | 1, _ => rfl
        | 2, _ => rfl)
      have hlen := Obol.be8s_take_len [t.root.toNat, t.inn.toNat, t.out.toNat] j
      replace hk := Lib.hid hk
      have cP := Lib.hid (txPut w.heap.size u3 _ k k0 k1 (Nat.le_trans hlen (show 24 ≤ 1000 by decide)) wr HI.out.2.2.size HI.out.1)
      have hdj : decide ((j : Int) < 3) = true := decide_eq_true (by omega)
      clear hlen
      go_wp2_with fail
      refine cP.out.mono ?_
      rintro e w4 ⟨v', rfl, hO, hb, hkp⟩
      have HN : Hid (OwnB w4 w.heap.size v' (Obol.be8s ([t.root.toNat, t.inn.toNat, t.out.toNat].take (j + 1))) ∧ HR w w4 [(bn, #[.int .u64 t.root, .int .u64 t.inn, .int .u64 t.out], 22), (b1, (txC t), 37)]) := Lib.hid (by
        rw [Obol.be8s_take (by simpa using hj3), ← kn.out]
        exact ⟨hO, HI.out.2.keep hkp hb (by simp)⟩)
      clear hO hb hkp hc
      go_wp2_with fail
      go_roundw
      case rel => exact ⟨j + 1, by omega, by go_num, HN⟩
      case measure => simp [intOf]; omega
    · obtain rfl : j = 3 := by omega
      have H3 : Hid (HR w wr [(b1, (txC t), 37)]) := Lib.hid (HR.sub HI.out.2 (by simp))
      have O3 : Hid (OwnB wr w.heap.size u3 (hd1 t)) := Lib.hid HI.out.1
      clear HI
      go_upto_region 7 with fail
      refine wp_region_noPanic ?_
      refine wp_region_held_drew (S := fun wq => wq.cell? ⟨b1, 3, none⟩ = some (.int .u64 t.fx) ∧ wq.cell? ⟨b1, 4, none⟩ = some (.int .u64 t.fy) ∧ wq.cell? ⟨b1, 5, none⟩ = some (.int .u64 t.tx) ∧ wq.cell? ⟨b1, 6, none⟩ = some (.int .u64 t.ty) ∧ wq.cell? ⟨b1, 7, none⟩ = some (.int .u64 t.seq) ∧ HR w wq [(b1, (txC t), 37)]) (by kernel_rfl) ?_ (fun hHeld => ?_)
      · have hq0 := HR.drew H3.out
        exact ⟨HR.cell hq0 (b := b1) (cs := (txC t)) (t := 37) (by simp) 3 rfl, HR.cell hq0 (b := b1) (cs := (txC t)) (t := 37) (by simp) 4 rfl, HR.cell hq0 (b := b1) (cs := (txC t)) (t := 37) (by simp) 5 rfl, HR.cell hq0 (b := b1) (cs := (txC t)) (t := 37) (by simp) 6 rfl, HR.cell hq0 (b := b1) (cs := (txC t)) (t := 37) (by simp) 7 rfl, hq0⟩
      refine tk 0 hHeld ?_; refine tk 1 hHeld ?_; refine tk 2 hHeld ?_; refine tk 4 hHeld ?_; refine tk 5 hHeld ?_; refine tk 7 hHeld ?_; refine tk 8 hHeld ?_
      refine stepH 3 (by kernel_rfl) rfl (by rfl) (fun K hK => ?_)
      go_simp
      refine (txPoint w.heap.size u3 (hd1 t) t.fx t.fy hok.out.fx0 hok.out.fy0 hpp.out.1 (by rw [hd1_len]; decide) _ (HR.far hHeld.2.2.2.2.2).2 O3.out).mono ?_
      rintro e wp1 ⟨vp1, rfl, hOp1, hbp1, hkp1⟩
      have hrp1 := HR.keep hHeld.2.2.2.2.2 hkp1 hbp1 (by simp)
      refine hK.out _ _ ?_ (fun hHeld => ?_)
      · exact ⟨HR.cell hrp1 (b := b1) (cs := (txC t)) (t := 37) (by simp) 3 rfl, HR.cell hrp1 (b := b1) (cs := (txC t)) (t := 37) (by simp) 4 rfl, HR.cell hrp1 (b := b1) (cs := (txC t)) (t := 37) (by simp) 5 rfl, HR.cell hrp1 (b := b1) (cs := (txC t)) (t := 37) (by simp) 6 rfl, HR.cell hrp1 (b := b1) (cs := (txC t)) (t := 37) (by simp) 7 rfl, hrp1⟩
      clear hK K
      try simp only [Act.put, List.setIfInBounds_toArray, List.set_cons_zero, List.set_cons_succ]
      refine stepH 6 (by kernel_rfl) rfl (by rfl) (fun K hK => ?_)
      go_simp
      refine (txPoint w.heap.size vp1 _ t.tx t.ty hok.out.tx0 hok.out.ty0 hpp.out.2.1 (by simp only [List.length_append, be8_l, hd1_len]; decide) _ (HR.far hHeld.2.2.2.2.2).2 hOp1).mono ?_
      rintro e wp2 ⟨vp2, rfl, hOp2, hbp2, hkp2⟩
      have hrp2 := HR.keep hHeld.2.2.2.2.2 hkp2 hbp2 (by simp)
      refine hK.out _ _ ?_ (fun hHeld => ?_)
      · exact ⟨HR.cell hrp2 (b := b1) (cs := (txC t)) (t := 37) (by simp) 3 rfl, HR.cell hrp2 (b := b1) (cs := (txC t)) (t := 37) (by simp) 4 rfl, HR.cell hrp2 (b := b1) (cs := (txC t)) (t := 37) (by simp) 5 rfl, HR.cell hrp2 (b := b1) (cs := (txC t)) (t := 37) (by simp) 6 rfl, HR.cell hrp2 (b := b1) (cs := (txC t)) (t := 37) (by simp) 7 rfl, hrp2⟩
      clear hK K
      try simp only [Act.put, List.setIfInBounds_toArray, List.set_cons_zero, List.set_cons_succ]
      refine stepH 9 (by kernel_rfl) rfl (by rfl) (fun K hK => ?_)
      go_simp
      refine (txPut w.heap.size vp2 _ t.seq hok.out.seq0 hok.out.seq1 (by simp only [List.length_append, be8_l, hd1_len]; decide) _ (HR.far hHeld.2.2.2.2.2).2 hOp2).mono ?_
      rintro e wp3 ⟨vp3, rfl, hOp3, hbp3, hkp3⟩
      have hrp3 := HR.keep hHeld.2.2.2.2.2 hkp3 hbp3 (by simp)
      refine hK.out _ _ ?_ (fun hHeld => ?_)
      · exact ⟨HR.cell hrp3 (b := b1) (cs := (txC t)) (t := 37) (by simp) 3 rfl, HR.cell hrp3 (b := b1) (cs := (txC t)) (t := 37) (by simp) 4 rfl, HR.cell hrp3 (b := b1) (cs := (txC t)) (t := 37) (by simp) 5 rfl, HR.cell hrp3 (b := b1) (cs := (txC t)) (t := 37) (by simp) 6 rfl, HR.cell hrp3 (b := b1) (cs := (txC t)) (t := 37) (by simp) 7 rfl, hrp3⟩
      clear hK K
      try simp only [Act.put, List.setIfInBounds_toArray, List.set_cons_zero, List.set_cons_succ]
      refine tk 10 hHeld ?_
      refine wpAnyH_done (by kernel_rfl) (NoPanic.normal ?_) _
      have H7 := Lib.hid hHeld.2.2.2.2.2
      have O7 : Hid (OwnB wp3 w.heap.size vp3 (hd2 t)) := Lib.hid hOp3
      clear hHeld hOp1 hOp2 hOp3 H3 O3 hbp1 hbp2 hbp3 hkp1 hkp2 hkp3 hrp1 hrp2 hrp3
      go_upto_region 8 with fail
      refine wp_region_noPanic ?_
      refine wp_region_held_drew (S := fun wq => HR w wq [(b1, (txC t), 37)]) (by kernel_rfl) ?_ (fun hHeld => ?_)
      · exact HR.drew H7.out
      refine tk 0 hHeld ?_; refine tk 1 hHeld ?_; refine tk 2 hHeld ?_; refine tk 3 hHeld ?_; refine tk 7 hHeld ?_
      refine stepH 4 (by kernel_rfl) rfl (by rfl) (fun K hK => ?_)
      go_simp
      refine hK.out _ _ ?_ (fun hHeld => ?_)
      · exact HR.alloc hHeld _
      clear hK K
      try simp only [Act.put, List.setIfInBounds_toArray, List.set_cons_zero, List.set_cons_succ]
      have cC0 := (uConcat wp3.heap.size 2 2 [⟨b1, 8, 2, 2, [t.e0.toNat, t.e1.toNat]⟩, ⟨b1, 10, 2, 2, [t.m0.toNat, t.m1.toNat]⟩] rfl (by decide) (wp3.drew.alloc (.cells #[.slice (some ⟨b1, 8, none⟩) 2 2, .slice (some ⟨b1, 10, none⟩) 2 2] 57)) (Row.new _ _ _) (parts2_ok t hok.out _ b1 (hHeld.row (by simp))) (show 0 < 4 by decide) (show 4 ≤ 1000 by decide))
      rw [show catL [⟨b1, 8, 2, 2, [t.e0.toNat, t.e1.toNat]⟩, ⟨b1, 10, 2, 2, [t.m0.toNat, t.m1.toNat]⟩] = numsM t from rfl, show (numsM t).length = 4 from rfl] at cC0
      have cC := Lib.hid cC0
      clear cC0
      refine stepH 5 (by kernel_rfl) rfl (by rfl) (fun K hK => ?_)
      go_simp
      refine (cC.out).mono ?_
      rintro e wc1 ⟨g, c, rfl, hOU, hbc1⟩
      have hrc1 := HR.next hHeld hbc1
      refine hK.out _ _ ?_ (fun hHeld => ?_)
      · exact hrc1
      clear hK K
      try simp only [Act.put, List.setIfInBounds_toArray, List.set_cons_zero, List.set_cons_succ]
      refine tk 6 hHeld ?_
      refine wpAnyH_done (by kernel_rfl) (NoPanic.normal ?_) _
      obtain ⟨cur, hcur, hcc⟩ := own_cells hOU
      have O8 : Hid (OwnB wc1 w.heap.size vp3 (hd2 t ++ Obol.be8s ((numsM t).take 0))) := Lib.hid (by
        have h1 : OwnB wp3.drew w.heap.size vp3 (hd2 t) := O7.out
        have h2 := OwnB.below (World.ownsRow.alloc h1 _) hbc1
        simpa [Obol.be8s] using h2)
      have H8 : Hid (HR w wc1 [(g, cur, 22), (b1, (txC t), 37)]) := Lib.hid (HR.add hHeld hcur)
      have hcc2 := Lib.hid hcc
      clear hHeld cC H7 O7 hcur hOU hbc1 hrc1 hcc
      go_upto_region 9 with fail
      go_loopw [3, 43] (fun q1 q2 wr => ∃ j : Nat, j ≤ 4 ∧ q2 = .int .i64 (j : Int) ∧ Hid (OwnB wr w.heap.size q1 (hd2 t ++ Obol.be8s ((numsM t).take j)) ∧ HR w wr [(g, cur, 22), (b1, (txC t), 37)])) (fun _ q2 _ => (4 - intOf q2).toNat)
      case atStart => exact ⟨0, by omega, rfl, Lib.hid ⟨O8.out, H8.out⟩⟩
      case round =>
        clear O8 H8
        obtain ⟨j, hj, rfl, HI⟩ := hrel
        by_cases hj4 : j < 4
        · have hcell := row_u64 (HI.out.2.row (b := g) (cs := cur) (t := 22) (by simp)) (numsM t) hcc2.out (i := j) hj4
          obtain ⟨k, hk⟩ : ∃ k : Int, (((numsM t).getD j 0 : Nat) : Int) = k := ⟨_, rfl⟩
          rw [hk] at hcell
          have k0 : 0 ≤ k := by omega
          have k1 : k ≤ 18446744073709551615 := by have := numsM_lt hok.out j; omega
          have kn : Hid (k.toNat = (numsM t).getD j 0) := Lib.hid (by omega)
          have hlen := Obol.be8s_take_len (numsM t) j
          replace hk := Lib.hid hk
          have cP := Lib.hid (txPut w.heap.size u3 _ k k0 k1 (by rw [List.length_append, hd2_len]; exact Nat.le_trans (Nat.add_le_add_left hlen 48) (show 48 + 32 ≤ 1000 by decide)) wr HI.out.2.2.size HI.out.1)
          have hdj : decide ((j : Int) < 4) = true := decide_eq_true (by omega)
          clear hlen
          go_wp2_with fail
          refine cP.out.mono ?_
          rintro e w4 ⟨v', rfl, hO, hb, hkp⟩
          have HN : Hid (OwnB w4 w.heap.size v' (hd2 t ++ Obol.be8s ((numsM t).take (j + 1))) ∧ HR w w4 [(g, cur, 22), (b1, (txC t), 37)]) := Lib.hid (by
            refine ⟨?_, HI.out.2.keep hkp hb (by simp)⟩
            have e := Obol.be8s_take (L := numsM t) (j := j) hj4
            rw [kn.out, List.append_assoc, ← e] at hO
            exact hO)
          clear hO hb hkp hcell
          go_wp2_with fail
          go_roundw
          case rel => exact ⟨j + 1, by omega, by go_num, HN⟩
          case measure => simp [intOf]; omega
        · obtain rfl : j = 4 := by omega
          rw [show ((4 : Nat) : Int) = 4 from rfl]
          have H9 : Hid (HR w wr [(b1, (txC t), 37)]) := Lib.hid (HR.sub HI.out.2 (by simp))
          have O9 : Hid (OwnB wr w.heap.size u3 (hd4 t L0 L1 0)) := Lib.hid HI.out.1
          clear HI hcc2
          have k_n0x := HR.cell H9.out (b := b1) (cs := (txC t)) (t := 37) (by simp) 12 rfl
          have k_n0y := HR.cell H9.out (b := b1) (cs := (txC t)) (t := 37) (by simp) 13 rfl
          have k_S0 := HR.cell H9.out (b := b1) (cs := (txC t)) (t := 37) (by simp) 14 rfl
          have k_n1x := HR.cell H9.out (b := b1) (cs := (txC t)) (t := 37) (by simp) 15 rfl
          have k_n1y := HR.cell H9.out (b := b1) (cs := (txC t)) (t := 37) (by simp) 16 rfl
          have k_S1 := HR.cell H9.out (b := b1) (cs := (txC t)) (t := 37) (by simp) 17 rfl
          go_upto_region 14 with fail
          clear k_n0x k_n0y k_S0 k_n1x k_n1y k_S1
          go_loopw [3, 53] (fun q1 q2 wr => ∃ j : Nat, j ≤ 2 ∧ q2 = .int .i64 (j : Int) ∧ Hid (OwnB wr w.heap.size q1 (hd4 t L0 L1 j)) ∧ Hid (HR w wr [(b1, (txC t), 37)])) (fun _ q2 _ => (2 - intOf q2).toNat)
          case atStart => exact ⟨0, by omega, rfl, O9, H9⟩
          case round =>
            clear O9 H9
            obtain ⟨j, hj, rfl, O9, H9⟩ := hrel
            rcases (by omega : j = 0 ∨ j = 1 ∨ j = 2) with rfl | rfl | rfl
            · have hix := idx_n0
              go_upto_region 16 with fail
              clear hix
              have H6 := Lib.hid (H9.out.new #[.int .u64 t.n0x, .int .u64 t.n0y, .slice t.s0 t.l0 t.c0] 28)
              have O6 := Lib.hid (World.ownsRow.alloc O9.out (.cells #[.int .u64 t.n0x, .int .u64 t.n0y, .slice t.s0 t.l0 t.c0] 28))
              generalize wr.alloc (.cells #[.int .u64 t.n0x, .int .u64 t.n0y, .slice t.s0 t.l0 t.c0] 28) = w6 at H6 O6 ⊢
              generalize wr.heap.size = b6 at H6 ⊢
              refine wp_region_noPanic ?_
              refine wp_region_held_drew (S := fun wq => wq.cell? ⟨b6, 0, none⟩ = some (.int .u64 t.n0x) ∧ wq.cell? ⟨b6, 1, none⟩ = some (.int .u64 t.n0y) ∧ wq.cell? ⟨b6, 2, none⟩ = some (.slice t.s0 t.l0 t.c0) ∧ HR w wq [(b6, #[.int .u64 t.n0x, .int .u64 t.n0y, .slice t.s0 t.l0 t.c0], 28), (b1, (txC t), 37)]) (by kernel_rfl) ?_ (fun hHeld => ?_)
              · have hq0 := HR.drew H6.out
                exact ⟨HR.cell hq0 (b := b6) (cs := #[.int .u64 t.n0x, .int .u64 t.n0y, .slice t.s0 t.l0 t.c0]) (t := 28) (by simp) 0 rfl, HR.cell hq0 (b := b6) (cs := #[.int .u64 t.n0x, .int .u64 t.n0y, .slice t.s0 t.l0 t.c0]) (t := 28) (by simp) 1 rfl, HR.cell hq0 (b := b6) (cs := #[.int .u64 t.n0x, .int .u64 t.n0y, .slice t.s0 t.l0 t.c0]) (t := 28) (by simp) 2 rfl, hq0⟩
              refine tk 0 hHeld ?_; refine tk 1 hHeld ?_; refine tk 2 hHeld ?_; refine tk 4 hHeld ?_; refine tk 5 hHeld ?_
              refine stepH 3 (by kernel_rfl) rfl (by rfl) (fun K hK => ?_)
              go_simp
              refine (txPoint w.heap.size u3 (hd4 t L0 L1 0) t.n0x t.n0y hok.out.n0x0 hok.out.n0y0 hpp.out.2.2.1 (by rw [show hd4 t L0 L1 0 = hd3 t from rfl, hd3_len]; decide) _ (HR.far hHeld.2.2.2).2 O6.out).mono ?_
              rintro e wp1 ⟨vp1, rfl, hOp1, hbp1, hkp1⟩
              have hrp1 := HR.keep hHeld.2.2.2 hkp1 hbp1 (by simp)
              refine hK.out _ _ ?_ (fun hHeld => ?_)
              · exact ⟨HR.cell hrp1 (b := b6) (cs := #[.int .u64 t.n0x, .int .u64 t.n0y, .slice t.s0 t.l0 t.c0]) (t := 28) (by simp) 0 rfl, HR.cell hrp1 (b := b6) (cs := #[.int .u64 t.n0x, .int .u64 t.n0y, .slice t.s0 t.l0 t.c0]) (t := 28) (by simp) 1 rfl, HR.cell hrp1 (b := b6) (cs := #[.int .u64 t.n0x, .int .u64 t.n0y, .slice t.s0 t.l0 t.c0]) (t := 28) (by simp) 2 rfl, hrp1⟩
              clear hK K
              try simp only [Act.put, List.setIfInBounds_toArray, List.set_cons_zero, List.set_cons_succ]
              obtain ⟨va, wa, hra, hOa, hba, hga, -⟩ := append_ownS wp1 w.heap.size vp1 _ L0 hOp1 t.s0 t.l0 t.c0 hBo.out.n0 (fun h => by have := hBo.out.b0.no h; have := hBo.out.n0; omega) (fun h => by obtain ⟨b, o, e1, -, e3⟩ := (hBo.out.b0.below (HR.far hHeld.2.2.2 |>.2 |> fun _ => (hHeld.2.2.2).2)).bl (by have := hBo.out.n0; omega); exact ⟨b, o, e1, e3⟩) (by have h1 := hLn.out.1; have h2 := hLn.out.2; rw [List.length_append, be8_l, show hd4 t L0 L1 0 = hd3 t from rfl, hd3_len, h1]; decide) (HR.far hHeld.2.2.2).2
              have hrA := HR.keep hHeld.2.2.2 (KeepT.grown hOp1 hga) hba (by simp)
              refine stepH 6 (by kernel_rfl) rfl (by rfl) (fun K hK => ?_)
              refine wp_appended _ _ _ _ rfl _ _ _ rfl rfl hra ?_
              refine hK.out _ _ ?_ (fun hHeld => ?_)
              · exact ⟨HR.cell hrA (b := b6) (cs := #[.int .u64 t.n0x, .int .u64 t.n0y, .slice t.s0 t.l0 t.c0]) (t := 28) (by simp) 0 rfl, HR.cell hrA (b := b6) (cs := #[.int .u64 t.n0x, .int .u64 t.n0y, .slice t.s0 t.l0 t.c0]) (t := 28) (by simp) 1 rfl, HR.cell hrA (b := b6) (cs := #[.int .u64 t.n0x, .int .u64 t.n0y, .slice t.s0 t.l0 t.c0]) (t := 28) (by simp) 2 rfl, hrA⟩
              clear hK K
              try simp only [Act.put, List.setIfInBounds_toArray, List.set_cons_zero, List.set_cons_succ]
              refine tk 7 hHeld ?_
              refine wpAnyH_done (by kernel_rfl) (NoPanic.normal ?_) _
              have HN := Lib.hid (HR.sub (qs := [(b1, (txC t), 37)]) hHeld.2.2.2 (by simp))
              have ON : Hid (OwnB wa w.heap.size va (hd4 t L0 L1 1)) := Lib.hid hOa
              clear hHeld H6 O6 H9 O9 hOa hba hga hOp1 hbp1 hkp1 hrp1 hrA hra
              go_wp2_with fail
              go_roundw
              case rel => exact ⟨1, by omega, rfl, ON, HN⟩
              case measure => simp [intOf]

            · have hix := idx_n1
              go_upto_region 16 with fail
              clear hix
              have H6 := Lib.hid (H9.out.new #[.int .u64 t.n1x, .int .u64 t.n1y, .slice t.s1 t.l1 t.c1] 28)
              have O6 := Lib.hid (World.ownsRow.alloc O9.out (.cells #[.int .u64 t.n1x, .int .u64 t.n1y, .slice t.s1 t.l1 t.c1] 28))
              generalize wr.alloc (.cells #[.int .u64 t.n1x, .int .u64 t.n1y, .slice t.s1 t.l1 t.c1] 28) = w6 at H6 O6 ⊢
              generalize wr.heap.size = b6 at H6 ⊢
              refine wp_region_noPanic ?_
              refine wp_region_held_drew (S := fun wq => wq.cell? ⟨b6, 0, none⟩ = some (.int .u64 t.n1x) ∧ wq.cell? ⟨b6, 1, none⟩ = some (.int .u64 t.n1y) ∧ wq.cell? ⟨b6, 2, none⟩ = some (.slice t.s1 t.l1 t.c1) ∧ HR w wq [(b6, #[.int .u64 t.n1x, .int .u64 t.n1y, .slice t.s1 t.l1 t.c1], 28), (b1, (txC t), 37)]) (by kernel_rfl) ?_ (fun hHeld => ?_)
              · have hq0 := HR.drew H6.out
                exact ⟨HR.cell hq0 (b := b6) (cs := #[.int .u64 t.n1x, .int .u64 t.n1y, .slice t.s1 t.l1 t.c1]) (t := 28) (by simp) 0 rfl, HR.cell hq0 (b := b6) (cs := #[.int .u64 t.n1x, .int .u64 t.n1y, .slice t.s1 t.l1 t.c1]) (t := 28) (by simp) 1 rfl, HR.cell hq0 (b := b6) (cs := #[.int .u64 t.n1x, .int .u64 t.n1y, .slice t.s1 t.l1 t.c1]) (t := 28) (by simp) 2 rfl, hq0⟩
              refine tk 0 hHeld ?_; refine tk 1 hHeld ?_; refine tk 2 hHeld ?_; refine tk 4 hHeld ?_; refine tk 5 hHeld ?_
              refine stepH 3 (by kernel_rfl) rfl (by rfl) (fun K hK => ?_)
              go_simp
              refine (txPoint w.heap.size u3 (hd4 t L0 L1 1) t.n1x t.n1y hok.out.n1x0 hok.out.n1y0 hpp.out.2.2.2 (by unfold hd4; simp only [List.length_append, be8_l, hd3_len, hLn.out.1]; decide) _ (HR.far hHeld.2.2.2).2 O6.out).mono ?_
              rintro e wp1 ⟨vp1, rfl, hOp1, hbp1, hkp1⟩
              have hrp1 := HR.keep hHeld.2.2.2 hkp1 hbp1 (by simp)
              refine hK.out _ _ ?_ (fun hHeld => ?_)
              · exact ⟨HR.cell hrp1 (b := b6) (cs := #[.int .u64 t.n1x, .int .u64 t.n1y, .slice t.s1 t.l1 t.c1]) (t := 28) (by simp) 0 rfl, HR.cell hrp1 (b := b6) (cs := #[.int .u64 t.n1x, .int .u64 t.n1y, .slice t.s1 t.l1 t.c1]) (t := 28) (by simp) 1 rfl, HR.cell hrp1 (b := b6) (cs := #[.int .u64 t.n1x, .int .u64 t.n1y, .slice t.s1 t.l1 t.c1]) (t := 28) (by simp) 2 rfl, hrp1⟩
              clear hK K
              try simp only [Act.put, List.setIfInBounds_toArray, List.set_cons_zero, List.set_cons_succ]
              obtain ⟨va, wa, hra, hOa, hba, hga, -⟩ := append_ownS wp1 w.heap.size vp1 _ L1 hOp1 t.s1 t.l1 t.c1 hBo.out.n1 (fun h => by have := hBo.out.b1.no h; have := hBo.out.n1; omega) (fun h => by obtain ⟨b, o, e1, -, e3⟩ := (hBo.out.b1.below (HR.far hHeld.2.2.2 |>.2 |> fun _ => (hHeld.2.2.2).2)).bl (by have := hBo.out.n1; omega); exact ⟨b, o, e1, e3⟩) (by have h1 := hLn.out.1; have h2 := hLn.out.2; rw [List.length_append, be8_l, h2]; unfold hd4; simp only [List.length_append, be8_l, hd3_len, h1]; decide) (HR.far hHeld.2.2.2).2
              have hrA := HR.keep hHeld.2.2.2 (KeepT.grown hOp1 hga) hba (by simp)
              refine stepH 6 (by kernel_rfl) rfl (by rfl) (fun K hK => ?_)
              refine wp_appended _ _ _ _ rfl _ _ _ rfl rfl hra ?_
              refine hK.out _ _ ?_ (fun hHeld => ?_)
              · exact ⟨HR.cell hrA (b := b6) (cs := #[.int .u64 t.n1x, .int .u64 t.n1y, .slice t.s1 t.l1 t.c1]) (t := 28) (by simp) 0 rfl, HR.cell hrA (b := b6) (cs := #[.int .u64 t.n1x, .int .u64 t.n1y, .slice t.s1 t.l1 t.c1]) (t := 28) (by simp) 1 rfl, HR.cell hrA (b := b6) (cs := #[.int .u64 t.n1x, .int .u64 t.n1y, .slice t.s1 t.l1 t.c1]) (t := 28) (by simp) 2 rfl, hrA⟩
              clear hK K
              try simp only [Act.put, List.setIfInBounds_toArray, List.set_cons_zero, List.set_cons_succ]
              refine tk 7 hHeld ?_
              refine wpAnyH_done (by kernel_rfl) (NoPanic.normal ?_) _
              have HN := Lib.hid (HR.sub (qs := [(b1, (txC t), 37)]) hHeld.2.2.2 (by simp))
              have ON : Hid (OwnB wa w.heap.size va (hd4 t L0 L1 2)) := Lib.hid hOa
              clear hHeld H6 O6 H9 O9 hOa hba hga hOp1 hbp1 hkp1 hrp1 hrA hra
              go_wp2_with fail
              go_roundw
              case rel => exact ⟨2, by omega, rfl, ON, HN⟩
              case measure => simp [intOf]

            · go_wp2_with fail
              go_ret
              exact ⟨_, rfl, O9.out, H9.out.2⟩

end Go.Proofs.Ytkfimfjjmdjbdaa
/- Walks: package tx: what its account signs, its bytes. -/
namespace Go.Proofs.Ytkfimfjjmdjbdaa
open Go.RowKit
set_option linter.unusedVariables false

theorem sizTX : (Try.prog.info? 37).map (·.size) = some 32 := by kernel_rfl
theorem exec_load {P : Program} {op : Oper} {a : Act} {w : World} (ty : TypeId) (x : Operand) (ho : op.op = .load ty x) (g : Nat) (hx : a.eval x = .pointer (some ⟨g, 0, none⟩)) (t : TypeId) (cs : Array Value) (fr : Nat × Nat) (d : TypeDesc)
    (hg : w.heap[g]? = some (.cells cs t fr)) (hu : P.underlying ty = some d) (hd : (match d with | .struct _ | .array _ _ => true | _ => false) = true) (hi : (P.info? ty).map (·.size) = some cs.size) :
    (execOp a.eval op).run P w = .ok (.value (.agg cs)) w := by
  unfold execOp
  simp only [ho, hx, Instr.loadAt, Instr.sureAddr, Sem.run_bind, Sem.run_pure, Result.andThen_ok, run_loadVar_row w g t ty cs fr d hg hu hd hi]
structure MayI (t : TxD) : Prop where
  pf : Obol.isN (t.fx.toNat, t.fy.toNat) = true
  pt : Obol.isN (t.tx.toNat, t.ty.toNat) = true
  pn0 : Obol.isN (t.n0x.toNat, t.n0y.toNat) = true
  pn1 : Obol.isN (t.n1x.toNat, t.n1y.toNat) = true
  pg : Obol.isN (t.gx.toNat, t.gy.toNat) = true
  l0 : t.l0 = 32
  l1 : t.l1 = 32
  pa : isPt t.ia t.xa t.ya = true
  pb : isPt t.ib t.xb t.yb = true
  pc : isPt t.ic t.xc t.yc = true
theorem in_is {p : Nat × Nat} (h : inN p = true) : Obol.isN p = true := by unfold inN at h; simp only [Bool.and_eq_true] at h; exact h.1
theorem inPt_is {i : Bool} {x y : Int} (h : inPt i x y = true) : isPt i x y = true := by unfold inPt at h; simp only [Bool.and_eq_true] at h; exact h.1
theorem MayI.of {t : TxD} (h : mayB t = true) : MayI t := by
  unfold mayB at h
  simp only [Bool.and_eq_true] at h
  obtain ⟨h1, h2, h3, h4, h5, h6⟩ := h
  have a2 := c2_parts h2
  have a3 := c3_parts h3
  have a4 := c3_parts h4
  have a5 := c4_parts h5
  exact ⟨in_is a2.1, in_is a2.2.1, in_is a3.1, in_is a4.1, in_is a5.2.2.2.1, a3.2.2, a4.2.2, inPt_is a5.1, inPt_is a5.2.1, inPt_is a5.2.2.1⟩
theorem bodL_len (t : TxD) {L0 L1 : List Nat} (h0 : L0.length = 32) (h1 : L1.length = 32) : (bodL t L0 L1).length ≤ 227 := by
  have hlen := hd4_len t h0 h1
  have hlp := prL_len t.ia t.xa t.ya t.ib t.xb t.yb t.ic t.xc t.yc 3
  unfold bodL
  simp only [List.length_append, be8_l, hlen]
  omega
def AppI (base : Nat) (L : List Nat) (w : World) (e : Ending) (w' : World) : Prop := ∃ v, e = .returned v ∧ OwnB w' base v L ∧ Below base w w' ∧ KeepT w w'
theorem tHeadA (t : TxD) (L0 L1 : List Nat) (h : TxOk t) (m : MayI t) (base : Nat) (w : World) (hB : Bods t L0 L1 w.heap.size w) (hb : base ≤ w.heap.size) :
    Calls Try.prog 29 #[txV t] w (AppI base (hd4 t L0 L1 2) w) :=
  (tHead t L0 L1 h m.pf m.pt m.pn0 m.pn1 m.l0 m.l1 w hB).mono fun e w' ⟨v, h1, h2, h3⟩ => ⟨v, h1, h2.base hb, h3.mono hb, KeepT.below h3⟩
set_option maxRecDepth 8000 in
theorem tBodyN (t : TxD) (h : TxOk t) (hm : mayB t = false) (w : World) : Calls Try.prog 11 #[txV t] w fun e w' => e = .returned (.tuple #[.slice none 0 0, errV 1]) ∧ Below w.heap.size w w' := by
  have cC := fun w => tCheck t h w
  rw [hm] at cC
  replace cC := Lib.hid cC
  clear h hm
  go_enter Try.func11, Try.ntmps11
  go_upto_region 1 with fail
  have H1 := Lib.hid ((HR.refl w).new (txC t) 37)
  generalize w.alloc (.cells (txC t) 37) = w2 at H1 ⊢
  generalize hb1 : w.heap.size = b1 at H1 ⊢
  have hbs : Hid (w.heap.size = b1) := Lib.hid hb1
  clear hb1
  have und := Try.underlying37
  have RT := Lib.hid (H1.out.row (b := b1) (cs := (txC t)) (t := 37) (by simp))
  go_wp2_with (refine wpList_load_row rfl _ _ rfl b1 rfl 37 (txC t) (0, 0) _ RT.out und rfl sizTX ?_)
  refine (cC.out _).mono ?_
  rintro e w1 ⟨rfl, hb⟩
  have B := Lib.hid (H1.out.next hb).2
  clear hb
  go_wp2_with fail
  go_ret2
  exact ⟨rfl, B.out⟩
set_option maxRecDepth 8000 in
theorem tWriteN (t : TxD) (h : TxOk t) (hm : mayB t = false) (w : World) : Calls Try.prog 10 #[txV t] w fun e w' => e = .returned (.tuple #[.slice none 0 0, errV 1]) ∧ Below w.heap.size w w' := by
  have cC := Lib.hid (fun w => tBodyN t h hm w)
  clear h hm
  go_enter Try.func10, Try.ntmps10
  go_upto_region 1 with fail
  have H1 := Lib.hid ((HR.refl w).new (txC t) 37)
  generalize w.alloc (.cells (txC t) 37) = w2 at H1 ⊢
  generalize hb1 : w.heap.size = b1 at H1 ⊢
  have hbs : Hid (w.heap.size = b1) := Lib.hid hb1
  clear hb1
  have und := Try.underlying37
  have RT := Lib.hid (H1.out.row (b := b1) (cs := (txC t)) (t := 37) (by simp))
  go_wp2_with (refine wpList_load_row rfl _ _ rfl b1 rfl 37 (txC t) (0, 0) _ RT.out und rfl sizTX ?_)
  refine (cC.out _).mono ?_
  rintro e w1 ⟨rfl, hb⟩
  have B := Lib.hid (H1.out.next hb).2
  clear hb
  go_wp2_with fail
  go_ret2
  exact ⟨rfl, B.out⟩
set_option maxRecDepth 100000 in
set_option maxHeartbeats 100000000 in
theorem tBody (t : TxD) (L0 L1 : List Nat) (h : TxOk t) (hm : mayB t = true) (w : World) (hB : Bods t L0 L1 w.heap.size w) :
    Calls Try.prog 11 #[txV t] w fun e w' => ∃ v, e = .returned (.tuple #[v, .nilIface]) ∧ OwnB w' w.heap.size v (bodL t L0 L1) ∧ Below w.heap.size w w' := by
  have hok := Lib.hid h
  have hI := Lib.hid (MayI.of hm)
  have hBo := Lib.hid hB
  have hLn : Hid (L0.length = 32 ∧ L1.length = 32) := Lib.hid ⟨hB.n0.trans (MayI.of hm).l0, hB.n1.trans (MayI.of hm).l1⟩
  have cC := fun w => tCheck t h w
  rw [hm] at cC
  replace cC := Lib.hid cC
  clear h hm hB
  go_enter Try.func11, Try.ntmps11
  go_upto_region 1 with fail
  have H1 := Lib.hid ((HR.refl w).new (txC t) 37)
  generalize w.alloc (.cells (txC t) 37) = w2 at H1 ⊢
  generalize hb1 : w.heap.size = b1 at H1 ⊢
  have hbs : Hid (w.heap.size = b1) := Lib.hid hb1
  clear hb1
  have und := Try.underlying37
  have RT := Lib.hid (H1.out.row (b := b1) (cs := (txC t)) (t := 37) (by simp))
  go_wp2_with (refine wpList_load_row rfl _ _ rfl b1 rfl 37 (txC t) (0, 0) _ RT.out und rfl sizTX ?_)
  refine (cC.out _).mono ?_
  rintro e w3 ⟨rfl, hb3⟩
  have H3 := Lib.hid (H1.out.next hb3)
  clear hb3 H1 cC
  go_upto_region 4 with fail
  refine wp_region_noPanic ?_
  refine wp_region_held_drew (S := fun wq => wq.cell? ⟨b1, 18, none⟩ = some (.int .u64 t.a0) ∧ wq.cell? ⟨b1, 19, none⟩ = some (.int .u64 t.a1) ∧ HR w wq [(b1, (txC t), 37)]) (by kernel_rfl) ?_ (fun hHeld => ?_)
  · have hq0 := HR.drew H3.out
    exact ⟨HR.cell hq0 (b := b1) (cs := (txC t)) (t := 37) (by simp) 18 rfl, HR.cell hq0 (b := b1) (cs := (txC t)) (t := 37) (by simp) 19 rfl, hq0⟩
  refine takeH 0 (fun _ _ _ _ _ h => h) (by kernel_rfl) hHeld rfl (by kernel_rfl) (by rfl) (v := .agg (txC t)) ?_ ?_
  · intro wz hz
    exact exec_load 37 _ rfl b1 rfl 37 (txC t) (0, 0) _ (hz.2.2.row (b := b1) (cs := (txC t)) (t := 37) (by simp)) und rfl sizTX
  try simp only [Act.put, List.setIfInBounds_toArray, List.set_cons_zero, List.set_cons_succ]
  refine tk 2 hHeld ?_; refine tk 3 hHeld ?_; refine tk 4 hHeld ?_; refine tk 6 hHeld ?_; refine tk 7 hHeld ?_; refine tk 8 hHeld ?_
  refine stepH 1 (by kernel_rfl) rfl (by rfl) (fun K hK => ?_)
  go_simp
  refine (tHeadA t L0 L1 hok.out hI.out w.heap.size _ (hBo.out.at (hHeld.2.2).2) (HR.far hHeld.2.2).2).mono ?_
  rintro e wp1 ⟨vp1, rfl, hOp1, hbp1, hkp1⟩
  have hrp1 := HR.keep hHeld.2.2 hkp1 hbp1 (by simp)
  refine hK.out _ _ ?_ (fun hHeld => ?_)
  · exact ⟨HR.cell hrp1 (b := b1) (cs := (txC t)) (t := 37) (by simp) 18 rfl, HR.cell hrp1 (b := b1) (cs := (txC t)) (t := 37) (by simp) 19 rfl, hrp1⟩
  clear hK K
  try simp only [Act.put, List.setIfInBounds_toArray, List.set_cons_zero, List.set_cons_succ]
  refine stepH 5 (by kernel_rfl) rfl (by rfl) (fun K hK => ?_)
  go_simp
  refine (txPut w.heap.size vp1 _ t.a0 hok.out.a00 hok.out.a01 (by have := hd4_len t hLn.out.1 hLn.out.2; (try simp only [List.length_append, be8_l]); omega) _ (HR.far hHeld.2.2).2 hOp1).mono ?_
  rintro e wp2 ⟨vp2, rfl, hOp2, hbp2, hkp2⟩
  have hrp2 := HR.keep hHeld.2.2 hkp2 hbp2 (by simp)
  refine hK.out _ _ ?_ (fun hHeld => ?_)
  · exact ⟨HR.cell hrp2 (b := b1) (cs := (txC t)) (t := 37) (by simp) 18 rfl, HR.cell hrp2 (b := b1) (cs := (txC t)) (t := 37) (by simp) 19 rfl, hrp2⟩
  clear hK K
  try simp only [Act.put, List.setIfInBounds_toArray, List.set_cons_zero, List.set_cons_succ]
  refine stepH 9 (by kernel_rfl) rfl (by rfl) (fun K hK => ?_)
  go_simp
  refine (txPut w.heap.size vp2 _ t.a1 hok.out.a10 hok.out.a11 (by have := hd4_len t hLn.out.1 hLn.out.2; (try simp only [List.length_append, be8_l]); omega) _ (HR.far hHeld.2.2).2 hOp2).mono ?_
  rintro e wp3 ⟨vp3, rfl, hOp3, hbp3, hkp3⟩
  have hrp3 := HR.keep hHeld.2.2 hkp3 hbp3 (by simp)
  refine hK.out _ _ ?_ (fun hHeld => ?_)
  · exact ⟨HR.cell hrp3 (b := b1) (cs := (txC t)) (t := 37) (by simp) 18 rfl, HR.cell hrp3 (b := b1) (cs := (txC t)) (t := 37) (by simp) 19 rfl, hrp3⟩
  clear hK K
  try simp only [Act.put, List.setIfInBounds_toArray, List.set_cons_zero, List.set_cons_succ]
  refine tk 10 hHeld ?_
  refine wpAnyH_done (by kernel_rfl) (NoPanic.normal ?_) _
  have H5 := Lib.hid hHeld.2.2
  have O5 : Hid (OwnB wp3 w.heap.size vp3 ((hd4 t L0 L1 2 ++ Obol.be8 t.a0.toNat) ++ Obol.be8 t.a1.toNat)) := Lib.hid hOp3
  clear hHeld hOp1 hOp2 hOp3 hbp1 hbp2 hbp3 hkp1 hkp2 hkp3 hrp1 hrp2 hrp3 H3
  have k := hok.out
  have cG := Lib.hid (fun W => gWrite t.ia t.xa t.ya t.ib t.xb t.yb t.ic t.xc t.yc k.xa0 k.ya0 k.xb0 k.yb0 k.xc0 k.yc0 k.xa1 k.ya1 k.xb1 k.yb1 k.xc1 k.yc1 hI.out.pa hI.out.pb hI.out.pc W)
  clear k
  have k_ia := HR.cell H5.out (b := b1) (cs := (txC t)) (t := 37) (by simp) 20 rfl
  have k_xa := HR.cell H5.out (b := b1) (cs := (txC t)) (t := 37) (by simp) 21 rfl
  have k_ya := HR.cell H5.out (b := b1) (cs := (txC t)) (t := 37) (by simp) 22 rfl
  have k_ib := HR.cell H5.out (b := b1) (cs := (txC t)) (t := 37) (by simp) 23 rfl
  have k_xb := HR.cell H5.out (b := b1) (cs := (txC t)) (t := 37) (by simp) 24 rfl
  have k_yb := HR.cell H5.out (b := b1) (cs := (txC t)) (t := 37) (by simp) 25 rfl
  have k_ic := HR.cell H5.out (b := b1) (cs := (txC t)) (t := 37) (by simp) 26 rfl
  have k_xc := HR.cell H5.out (b := b1) (cs := (txC t)) (t := 37) (by simp) 27 rfl
  have k_yc := HR.cell H5.out (b := b1) (cs := (txC t)) (t := 37) (by simp) 28 rfl
  go_wp2_with fail
  refine (cG.out _).mono ?_
  rintro e w6 ⟨v6, rfl, hO6, hb6⟩
  have O7 := O5.out.below hb6
  have B7 := bThen H5.out.2 hb6 H5.out.2.size
  have hlen := hd4_len t hLn.out.1 hLn.out.2
  have hlp := prL_len t.ia t.xa t.ya t.ib t.xb t.yb t.ic t.xc t.yc 3
  have hlp0 : 0 < (prL t.ia t.xa t.ya t.ib t.xb t.yb t.ic t.xc t.yc 3).length := by
    have := ptL_pos t.ia t.xa.toNat t.ya.toNat
    simp only [prL, List.length_append]
    omega
  obtain ⟨g, cap, cur, rfl, hge, hr, hle, hm, hsz, htk⟩ := hO6.size hlp0
  have hbl := hO6.bl
  obtain ⟨v8, w8, hap, hO8, hb8, -, -⟩ := append_ownB w6 w.heap.size vp3 _ _ O7 ⟨g, 0, none⟩ _ cap rfl (fun k hk => by rw [addB]; exact hbl k hk) (by simp only [List.length_append, be8_l, hlen]; omega) B7.size
  have O9 := Lib.hid hO8
  have B9 := Lib.hid (B7.trans hb8)
  clear hO6 hge hr hle hm hsz htk hbl hO8 hb8 hb6 O7 B7 hlen hlp hlp0
  clear k_ia k_xa k_ya k_ib k_xb k_yb k_ic k_xc k_yc
  go_wp2_with (at_builtin; refine wpList_appended rfl _ _ _ _ rfl _ _ _ rfl rfl hap ?_)
  go_ret2
  exact ⟨_, rfl, O9.out, B9.out⟩
set_option maxRecDepth 100000 in
set_option maxHeartbeats 100000000 in
theorem tWrite (t : TxD) (L0 L1 : List Nat) (h : TxOk t) (hm : mayB t = true) (w : World) (hB : Bods t L0 L1 w.heap.size w) :
    Calls Try.prog 10 #[txV t] w fun e w' => ∃ v, e = .returned (.tuple #[v, .nilIface]) ∧ OwnB w' w.heap.size v (wriL t L0 L1) ∧ Below w.heap.size w w' := by
  have hok := Lib.hid h
  have hI := Lib.hid (MayI.of hm)
  have hLn : Hid (L0.length = 32 ∧ L1.length = 32) := Lib.hid ⟨hB.n0.trans (MayI.of hm).l0, hB.n1.trans (MayI.of hm).l1⟩
  have cB := Lib.hid (fun W (hb : Below w.heap.size w W) => tBody t L0 L1 h hm W (hB.at hb))
  clear h hm hB
  go_enter Try.func10, Try.ntmps10
  go_upto_region 1 with fail
  have H1 := Lib.hid ((HR.refl w).new (txC t) 37)
  generalize w.alloc (.cells (txC t) 37) = w2 at H1 ⊢
  generalize hb1 : w.heap.size = b1 at H1 ⊢
  have hbs : Hid (w.heap.size = b1) := Lib.hid hb1
  clear hb1
  have und := Try.underlying37
  have RT := Lib.hid (H1.out.row (b := b1) (cs := (txC t)) (t := 37) (by simp))
  go_wp2_with (refine wpList_load_row rfl _ _ rfl b1 rfl 37 (txC t) (0, 0) _ RT.out und rfl sizTX ?_)
  refine (cB.out _ H1.out.2).mono ?_
  rintro e w3 ⟨v3, rfl, hO3, hb3⟩
  have H3 := Lib.hid (H1.out.next hb3)
  have O3 := Lib.hid (hO3.base H1.out.2.size)
  clear hb3 H1 cB hO3
  go_upto_region 4 with fail
  refine wp_region_noPanic ?_
  refine wp_region_held_drew (S := fun wq => wq.cell? ⟨b1, 29, none⟩ = some (.int .u64 t.gx) ∧ wq.cell? ⟨b1, 30, none⟩ = some (.int .u64 t.gy) ∧ wq.cell? ⟨b1, 31, none⟩ = some (.int .u64 t.gz) ∧ HR w wq [(b1, (txC t), 37)]) (by kernel_rfl) ?_ (fun hHeld => ?_)
  · have hq0 := HR.drew H3.out
    exact ⟨HR.cell hq0 (b := b1) (cs := (txC t)) (t := 37) (by simp) 29 rfl, HR.cell hq0 (b := b1) (cs := (txC t)) (t := 37) (by simp) 30 rfl, HR.cell hq0 (b := b1) (cs := (txC t)) (t := 37) (by simp) 31 rfl, hq0⟩
  refine tk 0 hHeld ?_; refine tk 1 hHeld ?_; refine tk 2 hHeld ?_; refine tk 3 hHeld ?_; refine tk 5 hHeld ?_; refine tk 6 hHeld ?_; refine tk 7 hHeld ?_
  refine stepH 4 (by kernel_rfl) rfl (by rfl) (fun K hK => ?_)
  go_simp
  refine (txPoint w.heap.size v3 (bodL t L0 L1) t.gx t.gy hok.out.gx0 hok.out.gy0 hI.out.pg (by have h1 := bodL_len t hLn.out.1 hLn.out.2; (try simp only [List.length_append, be8_l]); omega) _ (HR.far hHeld.2.2.2).2 O3.out).mono ?_
  rintro e wp1 ⟨vp1, rfl, hOp1, hbp1, hkp1⟩
  have hrp1 := HR.keep hHeld.2.2.2 hkp1 hbp1 (by simp)
  refine hK.out _ _ ?_ (fun hHeld => ?_)
  · exact ⟨HR.cell hrp1 (b := b1) (cs := (txC t)) (t := 37) (by simp) 29 rfl, HR.cell hrp1 (b := b1) (cs := (txC t)) (t := 37) (by simp) 30 rfl, HR.cell hrp1 (b := b1) (cs := (txC t)) (t := 37) (by simp) 31 rfl, hrp1⟩
  clear hK K
  try simp only [Act.put, List.setIfInBounds_toArray, List.set_cons_zero, List.set_cons_succ]
  refine stepH 8 (by kernel_rfl) rfl (by rfl) (fun K hK => ?_)
  go_simp
  refine (txPut w.heap.size vp1 _ t.gz hok.out.gz0 hok.out.gz1 (by have h1 := bodL_len t hLn.out.1 hLn.out.2; (try simp only [List.length_append, be8_l]); omega) _ (HR.far hHeld.2.2.2).2 hOp1).mono ?_
  rintro e wp2 ⟨vp2, rfl, hOp2, hbp2, hkp2⟩
  have hrp2 := HR.keep hHeld.2.2.2 hkp2 hbp2 (by simp)
  refine hK.out _ _ ?_ (fun hHeld => ?_)
  · exact ⟨HR.cell hrp2 (b := b1) (cs := (txC t)) (t := 37) (by simp) 29 rfl, HR.cell hrp2 (b := b1) (cs := (txC t)) (t := 37) (by simp) 30 rfl, HR.cell hrp2 (b := b1) (cs := (txC t)) (t := 37) (by simp) 31 rfl, hrp2⟩
  clear hK K
  try simp only [Act.put, List.setIfInBounds_toArray, List.set_cons_zero, List.set_cons_succ]
  refine tk 9 hHeld ?_; refine tk 10 hHeld ?_
  refine wpAnyH_done (by kernel_rfl) (NoPanic.normal ?_) _
  have H5 := Lib.hid hHeld.2.2.2.2
  have O5 : Hid (OwnB wp2 w.heap.size vp2 (wriL t L0 L1)) := Lib.hid hOp2
  clear hHeld hOp1 hOp2 hbp1 hbp2 hkp1 hkp2 hrp1 hrp2 H3
  go_wp2_with fail
  go_ret2
  exact ⟨_, rfl, O5.out, H5.out⟩

end Go.Proofs.Ytkfimfjjmdjbdaa
