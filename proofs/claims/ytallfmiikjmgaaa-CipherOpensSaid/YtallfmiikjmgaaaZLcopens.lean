import Derived.Test.YtallfmiikjmgaaaZL6base
set_option linter.unusedVariables false
set_option linter.unusedSimpArgs false
/- The walk of the law CipherOpens. -/
namespace Go.Proofs.Ytallfmiikjmgaaa
open Go.RowKit

set_option maxRecDepth 8000 in
set_option maxHeartbeats 8000000 in
theorem walkCOpens (w : World) (a0 : Option Addr) (l0 k0 : Nat) (L0 : List Nat) (x0 : B8 l0 L0) (hl0 : l0 ≤ k0) (hc0 : k0 ≤ 9223372036854775807) (hn0 : a0 = none → l0 = 0 ∧ k0 = 0) (hb0 : 0 < l0 → ∃ b o, a0 = some ⟨b, o, none⟩ ∧ BL w b o L0) (a1 : Option Addr) (l1 k1 : Nat) (L1 : List Nat) (x1 : B8 l1 L1) (hl1 : l1 ≤ k1) (hc1 : k1 ≤ 9223372036854775807) (hn1 : a1 = none → l1 = 0 ∧ k1 = 0) (hb1 : 0 < l1 → ∃ b o, a1 = some ⟨b, o, none⟩ ∧ BL w b o L1) (a2 : Option Addr) (l2 k2 : Nat) (L2 : List Nat) (x2 : B8 l2 L2) (hl2 : l2 ≤ k2) (hc2 : k2 ≤ 9223372036854775807) (hn2 : a2 = none → l2 = 0 ∧ k2 = 0) (hb2 : 0 < l2 → ∃ b o, a2 = some ⟨b, o, none⟩ ∧ BL w b o L2) (a3 : Option Addr) (l3 k3 : Nat) (L3 : List Nat) (x3 : B8 l3 L3) (hl3 : l3 ≤ k3) (hc3 : k3 ≤ 9223372036854775807) (hn3 : a3 = none → l3 = 0 ∧ k3 = 0) (hb3 : 0 < l3 → ∃ b o, a3 = some ⟨b, o, none⟩ ∧ BL w b o L3) :
    Calls Try.prog 5 #[.slice a0 l0 k0, .slice a1 l1 k1, .slice a2 l2 k2, .slice a3 l3 k3] w fun e w' => e = .returned (.bool true) ∧ Below w.heap.size w w' := by
  have S0 := Lib.hid (sl6 x0 hl0 hc0 hn0 hb0)
  have S1 := Lib.hid (sl6 x1 hl1 hc1 hn1 hb1)
  have S2 := Lib.hid (sl6 x2 hl2 hc2 hn2 hb2)
  have S3 := Lib.hid (sl6 x3 hl3 hc3 hn3 hb3)
  have cU := Lib.hid (up6 w)
  clear hn0 hb0 hn1 hb1 hn2 hb2 hn3 hb3
  go_enter Try.func5, Try.ntmps5
  go_wp2_with fail
  refine cU.out.mono ?_
  rintro e w1 ⟨rfl, hb1⟩
  have B1 := Lib.hid hb1
  clear hb1 cU
  by_cases h2 : 1000 < l2
  · have h2i : (1000 : Int) < (l2 : Int) := by omega
    go_wp2_with fail
    go_ret
    exact ⟨rfl, B1.out⟩
  have h2i : ¬ (1000 : Int) < (l2 : Int) := by omega
  by_cases h3 : 1000 < l3
  · have h3i : (1000 : Int) < (l3 : Int) := by omega
    go_wp2_with fail
    go_ret
    exact ⟨rfl, B1.out⟩
  have h3i : ¬ (1000 : Int) < (l3 : Int) := by omega
  by_cases hk : l0 = 32 ∧ l1 = 12
  · obtain ⟨rfl, rfl⟩ := hk
    have hE := fun W => eqErrC W 6 6
    by_cases hlt : l3 < 16
    · have cO := Lib.hid (fun W => qOpenS a0 a1 a2 a3 k0 k1 l2 k2 l3 k3 hlt W)
      have hw : IntKind.i64.wrap ((l3 : Int) - 16) = (l3 : Int) - 16 := by rw [IntKind.wrap_i64]; omega
      have hn : (l3 : Int) - 16 < 0 := by omega
      go_wp2_with fail
      refine (cO.out _).mono ?_
      rintro e w2 ⟨rfl, rfl⟩
      have B2 := B1
      go_wp2_with fail
      refine (lFitsY _ _ _ _ _).mono ?_
      rintro e w2' ⟨rfl, rfl⟩
      go_wp2_with fail
      refine wp_region_noPanic ?_
      refine wp_region_held_drew (S := fun wq => Below w.heap.size w wq) (by kernel_rfl) ?_ (fun hHeld => ?_)
      · exact bDrew B2.out
      refine takeH 0 (fun _ _ _ _ _ h => h) (by kernel_rfl) hHeld rfl (by kernel_rfl) (by rfl) (v := ?_) ?_ ?_
      rotate_left
      ((intro wz hz; (try dsimp only at hz); go_simp) <;> with_reducible rfl)
      try simp only [Act.put, List.setIfInBounds_toArray, List.set_cons_zero, List.set_cons_succ]
      refine takeH 1 (fun _ _ _ _ _ h => h) (by kernel_rfl) hHeld rfl (by kernel_rfl) (by rfl) (v := ?_) ?_ ?_
      rotate_left
      ((intro wz hz; (try dsimp only at hz); go_simp) <;> with_reducible rfl)
      try simp only [Act.put, List.setIfInBounds_toArray, List.set_cons_zero, List.set_cons_succ]
      refine takeH 2 (fun _ _ _ _ _ h => h) (by kernel_rfl) hHeld rfl (by kernel_rfl) (by rfl) (v := ?_) ?_ ?_
      rotate_left
      ((intro wz hz; (try dsimp only at hz); go_simp) <;> with_reducible rfl)
      try simp only [Act.put, List.setIfInBounds_toArray, List.set_cons_zero, List.set_cons_succ]
      refine skipH 3 (fun _ _ _ _ _ h => h) (by kernel_rfl) hHeld rfl (by kernel_rfl) (by rfl) ?_
      try simp only [Act.put, List.setIfInBounds_toArray, List.set_cons_zero, List.set_cons_succ]
      refine skipH 4 (fun _ _ _ _ _ h => h) (by kernel_rfl) hHeld rfl (by kernel_rfl) (by rfl) ?_
      try simp only [Act.put, List.setIfInBounds_toArray, List.set_cons_zero, List.set_cons_succ]
      refine skipH 5 (fun _ _ _ _ _ h => h) (by kernel_rfl) hHeld rfl (by kernel_rfl) (by rfl) ?_
      try simp only [Act.put, List.setIfInBounds_toArray, List.set_cons_zero, List.set_cons_succ]
      refine skipH 6 (fun _ _ _ _ _ h => h) (by kernel_rfl) hHeld rfl (by kernel_rfl) (by rfl) ?_
      try simp only [Act.put, List.setIfInBounds_toArray, List.set_cons_zero, List.set_cons_succ]
      refine skipH 7 (fun _ _ _ _ _ h => h) (by kernel_rfl) hHeld rfl (by kernel_rfl) (by rfl) ?_
      try simp only [Act.put, List.setIfInBounds_toArray, List.set_cons_zero, List.set_cons_succ]
      refine skipH 8 (fun _ _ _ _ _ h => h) (by kernel_rfl) hHeld rfl (by kernel_rfl) (by rfl) ?_
      try simp only [Act.put, List.setIfInBounds_toArray, List.set_cons_zero, List.set_cons_succ]
      refine skipH 9 (fun _ _ _ _ _ h => h) (by kernel_rfl) hHeld rfl (by kernel_rfl) (by rfl) ?_
      try simp only [Act.put, List.setIfInBounds_toArray, List.set_cons_zero, List.set_cons_succ]
      refine skipH 10 (fun _ _ _ _ _ h => h) (by kernel_rfl) hHeld rfl (by kernel_rfl) (by rfl) ?_
      try simp only [Act.put, List.setIfInBounds_toArray, List.set_cons_zero, List.set_cons_succ]
      refine skipH 11 (fun _ _ _ _ _ h => h) (by kernel_rfl) hHeld rfl (by kernel_rfl) (by rfl) ?_
      try simp only [Act.put, List.setIfInBounds_toArray, List.set_cons_zero, List.set_cons_succ]
      refine skipH 12 (fun _ _ _ _ _ h => h) (by kernel_rfl) hHeld rfl (by kernel_rfl) (by rfl) ?_
      try simp only [Act.put, List.setIfInBounds_toArray, List.set_cons_zero, List.set_cons_succ]
      refine skipH 13 (fun _ _ _ _ _ h => h) (by kernel_rfl) hHeld rfl (by kernel_rfl) (by rfl) ?_
      try simp only [Act.put, List.setIfInBounds_toArray, List.set_cons_zero, List.set_cons_succ]
      refine skipH 14 (fun _ _ _ _ _ h => h) (by kernel_rfl) hHeld rfl (by kernel_rfl) (by rfl) ?_
      try simp only [Act.put, List.setIfInBounds_toArray, List.set_cons_zero, List.set_cons_succ]
      refine skipH 15 (fun _ _ _ _ _ h => h) (by kernel_rfl) hHeld rfl (by kernel_rfl) (by rfl) ?_
      try simp only [Act.put, List.setIfInBounds_toArray, List.set_cons_zero, List.set_cons_succ]
      refine takeH 16 (fun _ _ _ _ _ h => h) (by kernel_rfl) hHeld rfl (by kernel_rfl) (by rfl) (v := ?_) ?_ ?_
      rotate_left
      ((intro wz hz; (try dsimp only at hz); go_simp) <;> with_reducible rfl)
      try simp only [Act.put, List.setIfInBounds_toArray, List.set_cons_zero, List.set_cons_succ]
      refine wpAnyH_done (by kernel_rfl) (NoPanic.normal ?_) _
      go_wp2_with fail
      go_ret
      exact ⟨rfl, hHeld⟩
    · obtain ⟨n, rfl⟩ : ∃ n, l3 = n + 16 := ⟨l3 - 16, by omega⟩
      obtain ⟨bk, ok, rfl, hbk, hBK, hck⟩ := S0.out.key x0 (by omega)
      obtain ⟨bn, on, rfl, hbn, hBN, hcn⟩ := S1.out.key x1 (by omega)
      obtain ⟨bs, os, rfl, hbs, hBS, hcs⟩ := S3.out.key x3 (by omega)
      have cO := Lib.hid (qOpen bk ok k0 bn on k1 L0 L1 x0 x1 hck hcn (.slice a2 l2 k2) L2 (some ⟨bs, os, none⟩) n k3 L3 x3 (by omega) w1 (Nat.lt_of_lt_of_le hbk B1.out.size) (Nat.lt_of_lt_of_le hbn B1.out.size) (hBK.below B1.out hbk) (hBN.below B1.out hbn) ((S2.out.next B1.out).seg x2 (by omega)) (S3.out.next B1.out))
      have hTl : (L3.take n).length = n := by rw [List.length_take, x3.len]; omega
      have hTb : ∀ i, (L3.take n).getD i 0 < 256 := fun i => by rw [Obol.getD_take]; split; exact x3.lt i; decide
      have hRl : Hid ((L3.drop n).length = 16) := Lib.hid (by rw [List.length_drop, x3.len]; omega)
      have hRb : Hid (∀ i, (L3.drop n).getD i 0 < 256) := Lib.hid (fun i => by rw [Obol.getD_drop]; exact x3.lt _)
      have ST : SlI w.heap.size w (some ⟨bs, os, none⟩) k3 (L3.take n) := ⟨by rw [hTl]; omega, hc3, (fun h => by cases h), fun _ => ⟨bs, os, rfl, hbs, fun i hi => by rw [hTl] at hi; rw [hBS i (by rw [x3.len]; omega), Obol.getD_take, if_pos hi]⟩⟩
      have hBR : BL w bs (os + n) (L3.drop n) := fun i hi => by
        rw [hRl.out] at hi
        rw [Nat.add_assoc, hBS (n + i) (by rw [x3.len]; omega), Obol.getD_drop]
      have cR0 := Lib.hid (fun W (hw : Below w.heap.size w W) => rBoth bk ok k0 bn on k1 L0 L1 x0 x1 (.slice a2 l2 k2) (.slice (some ⟨bs, os, none⟩) n k3) L2 (L3.take n) W (Nat.lt_of_lt_of_le hbk hw.size) (Nat.lt_of_lt_of_le hbn hw.size) (hBK.below hw hbk) (hBN.below hw hbn) ((S2.out.next hw).seg x2 (by omega)) ((ST.next hw).seg ⟨hTl, hTb⟩ (by omega)))
      have cT := Lib.hid (fun W (hw : Below w.heap.size w W) => (rStream bk ok k0 bn on k1 L0 L1 x0 x1 (some ⟨bs, os, none⟩) n k3 (L3.take n) ⟨hTl, hTb⟩ (by omega) (fun h => by cases h) W (Nat.lt_of_lt_of_le hbk hw.size) (Nat.lt_of_lt_of_le hbn hw.size) (hBK.below hw hbk) (hBN.below hw hbn) (fun h => by rw [← hTl] at h; obtain ⟨b, o, e1, e2, e3⟩ := (ST.next hw).bl h; exact ⟨b, o, e1, e2, e3⟩)).mono (fun e w' h => (⟨_, h.1, h.2.1, h.2.2⟩ : ∃ gc, e = .returned (.slice (some ⟨gc, 0, none⟩) n n) ∧ Row w' gc (u8s (Obol.strmS L0 L1 (L3.take n) n n)) 5 ∧ Below W.heap.size W w')))
      have hX : Obol.strmS L0 L1 (L3.take n) n n = Obol.strm L0 L1 (L3.take n) := by have h := Obol.strm_ref L0 L1 (L3.take n); rwa [hTl] at h
      rw [hX] at cT
      have hYl : Hid ((Obol.strm L0 L1 (L3.take n)).length = n) := Lib.hid (by rw [Obol.strm_len, hTl])
      have hMl := Lib.hid (Obol.bothL_len L0 L1 L2 (L3.take n))
      have hMb := Lib.hid (Obol.bothL_lt L0 L1 L2 (L3.take n))
      have BR0 := Lib.hid (⟨hBR, hbs⟩ : BL w bs (os + n) (L3.drop n) ∧ bs < w.heap.size)
      obtain ⟨Y, hY⟩ : ∃ l, Obol.strm L0 L1 (L3.take n) = l := ⟨_, rfl⟩
      obtain ⟨M, hM⟩ : ∃ l, Obol.bothL L0 L1 L2 (L3.take n) = l := ⟨_, rfl⟩
      obtain ⟨Rr, hRr⟩ : ∃ l, L3.drop n = l := ⟨_, rfl⟩
      rw [hY] at cO cT hYl
      rw [hM] at cO cR0 hMl hMb
      rw [hRr] at cO hRl hRb BR0
      replace hY := Lib.hid hY
      replace hM := Lib.hid hM
      replace hRr := Lib.hid hRr
      have hsl := fun W => slice_rest (P := Try.prog) 22 5 Try.underlying22 info8 bs os (n + 16) k3 n (by omega) hcs W
      rw [if_neg (by omega), show n + 16 - n = 16 by omega] at hsl
      have hw := wrap_small (x := (n : Int) + 16 - 16) (by omega) (by omega)
      have hn16 : (n : Int) + 16 - 16 = n := by omega
      have hn0 : ¬ (n : Int) < 0 := by omega
      have hnc : (n : Int) ≤ (k3 : Int) := by omega
      have hnc2 : n ≤ k3 := by omega
      clear hbk hBK hbn hBN hbs hBS hBR ST hX hTl hTb
      go_wp2_with fail
      refine cO.out.mono ?_
      rintro e w2 ⟨he, hb2⟩
      have B2 := Lib.hid (bThen B1.out hb2 B1.out.size)
      have BR : Hid (∀ W, Below w2.heap.size w2 W → BL W bs (os + n) Rr) := Lib.hid (fun W hW => BR0.out.1.below (bThen B2.out hW B2.out.size) BR0.out.2)
      have cR := Lib.hid (fun W (hW : Below w2.heap.size w2 W) => cR0.out W (bThen B2.out hW B2.out.size))
      rcases he with ⟨hEq, a5, c5, rfl, hO⟩ | ⟨hNe, rfl⟩
      · subst hEq
        have O2 := Lib.hid (hO.base B1.out.size)
        clear hO hb2 cO cR0
        go_wp2_with fail
        refine (lFitsY _ _ _ _ _).mono ?_
        rintro e w2' ⟨rfl, rfl⟩
        go_wp2_with fail
        refine wp_region_noPanic ?_
        refine wp_region_held_drew (S := fun wq => (convert 22 9 (.slice (some ⟨bs, os + n, none⟩) 16 (k3 - n))).run Try.prog wq = .ok (.string (strB M)) wq ∧ Below w2'.heap.size w2' wq) (by kernel_rfl) ?_ (fun hHeld => ?_)
        · exact ⟨conv8 (BR.out _ (bDrew (Below.refl _ _))) hRl.out, bDrew (Below.refl _ _)⟩
        refine takeH 0 (fun _ _ _ _ _ h => h) (by kernel_rfl) hHeld rfl (by kernel_rfl) (by rfl) (v := ?_) ?_ ?_
        rotate_left
        ((intro wz hz; (try dsimp only at hz); go_simp) <;> with_reducible rfl)
        try simp only [Act.put, List.setIfInBounds_toArray, List.set_cons_zero, List.set_cons_succ]
        refine takeH 1 (fun _ _ _ _ _ h => h) (by kernel_rfl) hHeld rfl (by kernel_rfl) (by rfl) (v := ?_) ?_ ?_
        rotate_left
        ((intro wz hz; (try dsimp only at hz); go_simp) <;> with_reducible rfl)
        try simp only [Act.put, List.setIfInBounds_toArray, List.set_cons_zero, List.set_cons_succ]
        refine takeH 2 (fun _ _ _ _ _ h => h) (by kernel_rfl) hHeld rfl (by kernel_rfl) (by rfl) (v := ?_) ?_ ?_
        rotate_left
        ((intro wz hz; (try dsimp only at hz); go_simp) <;> with_reducible rfl)
        try simp only [Act.put, List.setIfInBounds_toArray, List.set_cons_zero, List.set_cons_succ]
        refine takeH 3 (fun _ _ _ _ _ h => h) (by kernel_rfl) hHeld rfl (by kernel_rfl) (by rfl) (v := ?_) ?_ ?_
        rotate_left
        ((intro wz hz; (try dsimp only at hz); go_simp) <;> with_reducible rfl)
        try simp only [Act.put, List.setIfInBounds_toArray, List.set_cons_zero, List.set_cons_succ]
        refine takeH 4 (fun _ _ _ _ _ h => h) (by kernel_rfl) hHeld rfl (by kernel_rfl) (by rfl) (v := ?_) ?_ ?_
        rotate_left
        ((intro wz hz; (try dsimp only at hz); go_simp) <;> with_reducible rfl)
        try simp only [Act.put, List.setIfInBounds_toArray, List.set_cons_zero, List.set_cons_succ]
        refine takeH 5 (fun _ _ _ _ _ h => h) (by kernel_rfl) hHeld rfl (by kernel_rfl) (by rfl) (v := ?_) ?_ ?_
        rotate_left
        ((intro wz hz; (try dsimp only at hz); go_simp) <;> with_reducible rfl)
        try simp only [Act.put, List.setIfInBounds_toArray, List.set_cons_zero, List.set_cons_succ]
        refine takeH 6 (fun _ _ _ _ _ h => h) (by kernel_rfl) hHeld rfl (by kernel_rfl) (by rfl) (v := ?_) ?_ ?_
        rotate_left
        ((intro wz hz; (try dsimp only at hz); go_simp) <;> with_reducible rfl)
        try simp only [Act.put, List.setIfInBounds_toArray, List.set_cons_zero, List.set_cons_succ]
        refine takeH 7 (fun _ _ _ _ _ h => h) (by kernel_rfl) hHeld rfl (by kernel_rfl) (by rfl) (v := ?_) ?_ ?_
        rotate_left
        ((intro wz hz; (try dsimp only at hz); go_simp) <;> with_reducible rfl)
        try simp only [Act.put, List.setIfInBounds_toArray, List.set_cons_zero, List.set_cons_succ]
        refine takeH 8 (fun _ _ _ _ _ h => h) (by kernel_rfl) hHeld rfl (by kernel_rfl) (by rfl) (v := ?_) ?_ ?_
        rotate_left
        ((intro wz hz; (try dsimp only at hz); go_simp) <;> with_reducible rfl)
        try simp only [Act.put, List.setIfInBounds_toArray, List.set_cons_zero, List.set_cons_succ]
        refine takeH 11 (fun _ _ _ _ _ h => h) (by kernel_rfl) hHeld rfl (by kernel_rfl) (by rfl) (v := ?_) ?_ ?_
        rotate_left
        ((intro wz hz; (try dsimp only at hz); go_simp) <;> with_reducible rfl)
        try simp only [Act.put, List.setIfInBounds_toArray, List.set_cons_zero, List.set_cons_succ]
        refine takeH 12 (fun _ _ _ _ _ h => h) (by kernel_rfl) hHeld rfl (by kernel_rfl) (by rfl) (v := ?_) ?_ ?_
        rotate_left
        ((intro wz hz; (try dsimp only at hz); go_simp) <;> with_reducible rfl)
        try simp only [Act.put, List.setIfInBounds_toArray, List.set_cons_zero, List.set_cons_succ]
        refine takeH 13 (fun _ _ _ _ _ h => h) (by kernel_rfl) hHeld rfl (by kernel_rfl) (by rfl) (v := ?_) ?_ ?_
        rotate_left
        ((intro wz hz; (try dsimp only at hz); go_simp) <;> with_reducible rfl)
        try simp only [Act.put, List.setIfInBounds_toArray, List.set_cons_zero, List.set_cons_succ]
        refine takeH 14 (fun _ _ _ _ _ h => h) (by kernel_rfl) hHeld rfl (by kernel_rfl) (by rfl) (v := ?_) ?_ ?_
        rotate_left
        ((intro wz hz; (try dsimp only at hz); go_simp) <;> with_reducible rfl)
        try simp only [Act.put, List.setIfInBounds_toArray, List.set_cons_zero, List.set_cons_succ]
        refine stepH 9 (by kernel_rfl) rfl (by rfl) (fun K hK => ?_)
        go_simp
        refine (cR.out _ hHeld.2).mono ?_
        rintro e w4 ⟨g4, rfl, hR4, hg4, hb4⟩
        have hcv := conv8 (cap := 16) (n := 16) hR4.bl hMl.out
        refine hK.out _ _ ?_ (fun hHeld => ?_)
        · exact ⟨conv8 (BR.out _ (bThen hHeld.2 hb4 hHeld.2.size)) hRl.out, bThen hHeld.2 hb4 hHeld.2.size⟩
        clear hK K
        try simp only [Act.put, List.setIfInBounds_toArray, List.set_cons_zero, List.set_cons_succ]
        refine stepH 10 (by kernel_rfl) rfl (by rfl) (fun K hK => ?_)
        go_simp
        refine hK.out _ _ ?_ (fun hHeld => ?_)
        · exact hHeld
        clear hK K
        try simp only [Act.put, List.setIfInBounds_toArray, List.set_cons_zero, List.set_cons_succ]
        refine takeH 15 (fun _ _ _ _ _ h => h) (by kernel_rfl) hHeld rfl (by kernel_rfl) (by rfl) (v := ?_) ?_ ?_
        rotate_left
        ((intro wz hz; (try dsimp only at hz); go_simp) <;> with_reducible rfl)
        try simp only [Act.put, List.setIfInBounds_toArray, List.set_cons_zero, List.set_cons_succ]
        refine takeH 16 (fun _ _ _ _ _ h => h) (by kernel_rfl) hHeld rfl (by kernel_rfl) (by rfl) (v := ?_) ?_ ?_
        rotate_left
        ((intro wz hz; (try dsimp only at hz); go_simp) <;> with_reducible rfl)
        try simp only [Act.put, List.setIfInBounds_toArray, List.set_cons_zero, List.set_cons_succ]
        refine wpAnyH_done (by kernel_rfl) (NoPanic.normal ?_) _
        have O5 := Lib.hid (O2.out.below hHeld.2)
        have B5 := Lib.hid (bThen B2.out hHeld.2 B2.out.size)
        clear hHeld O2
        rename World => w5
        go_wp2_with fail
        refine wp_region_noPanic ?_
        refine wp_region_held_drew (S := fun wq => (convert 22 9 (.slice a5 n c5)).run Try.prog wq = .ok (.string (strB Y)) wq ∧ OwnB wq w.heap.size (.slice a5 n c5) Y ∧ Below w.heap.size w wq) (by kernel_rfl) ?_ (fun hHeld => ?_)
        · exact ⟨own_conv (w := w5.drew) O5.out, O5.out, bDrew B5.out⟩
        refine takeH 0 (fun _ _ _ _ _ h => h) (by kernel_rfl) hHeld rfl (by kernel_rfl) (by rfl) (v := ?_) ?_ ?_
        rotate_left
        ((intro wz hz; (try dsimp only at hz); go_simp) <;> with_reducible rfl)
        try simp only [Act.put, List.setIfInBounds_toArray, List.set_cons_zero, List.set_cons_succ]
        refine takeH 1 (fun _ _ _ _ _ h => h) (by kernel_rfl) hHeld rfl (by kernel_rfl) (by rfl) (v := ?_) ?_ ?_
        rotate_left
        ((intro wz hz; (try dsimp only at hz); go_simp) <;> with_reducible rfl)
        try simp only [Act.put, List.setIfInBounds_toArray, List.set_cons_zero, List.set_cons_succ]
        refine takeH 2 (fun _ _ _ _ _ h => h) (by kernel_rfl) hHeld rfl (by kernel_rfl) (by rfl) (v := ?_) ?_ ?_
        rotate_left
        ((intro wz hz; (try dsimp only at hz); go_simp) <;> with_reducible rfl)
        try simp only [Act.put, List.setIfInBounds_toArray, List.set_cons_zero, List.set_cons_succ]
        refine takeH 3 (fun _ _ _ _ _ h => h) (by kernel_rfl) hHeld rfl (by kernel_rfl) (by rfl) (v := ?_) ?_ ?_
        rotate_left
        ((intro wz hz; (try dsimp only at hz); go_simp) <;> with_reducible rfl)
        try simp only [Act.put, List.setIfInBounds_toArray, List.set_cons_zero, List.set_cons_succ]
        refine takeH 4 (fun _ _ _ _ _ h => h) (by kernel_rfl) hHeld rfl (by kernel_rfl) (by rfl) (v := ?_) ?_ ?_
        rotate_left
        ((intro wz hz; (try dsimp only at hz); go_simp) <;> with_reducible rfl)
        try simp only [Act.put, List.setIfInBounds_toArray, List.set_cons_zero, List.set_cons_succ]
        refine takeH 5 (fun _ _ _ _ _ h => h) (by kernel_rfl) hHeld rfl (by kernel_rfl) (by rfl) (v := ?_) ?_ ?_
        rotate_left
        ((intro wz hz; (try dsimp only at hz); go_simp) <;> with_reducible rfl)
        try simp only [Act.put, List.setIfInBounds_toArray, List.set_cons_zero, List.set_cons_succ]
        refine takeH 6 (fun _ _ _ _ _ h => h) (by kernel_rfl) hHeld rfl (by kernel_rfl) (by rfl) (v := ?_) ?_ ?_
        rotate_left
        ((intro wz hz; (try dsimp only at hz); go_simp) <;> with_reducible rfl)
        try simp only [Act.put, List.setIfInBounds_toArray, List.set_cons_zero, List.set_cons_succ]
        refine takeH 7 (fun _ _ _ _ _ h => h) (by kernel_rfl) hHeld rfl (by kernel_rfl) (by rfl) (v := ?_) ?_ ?_
        rotate_left
        ((intro wz hz; (try dsimp only at hz); go_simp) <;> with_reducible rfl)
        try simp only [Act.put, List.setIfInBounds_toArray, List.set_cons_zero, List.set_cons_succ]
        refine takeH 8 (fun _ _ _ _ _ h => h) (by kernel_rfl) hHeld rfl (by kernel_rfl) (by rfl) (v := ?_) ?_ ?_
        rotate_left
        ((intro wz hz; (try dsimp only at hz); go_simp) <;> with_reducible rfl)
        try simp only [Act.put, List.setIfInBounds_toArray, List.set_cons_zero, List.set_cons_succ]
        refine takeH 9 (fun _ _ _ _ _ h => h) (by kernel_rfl) hHeld rfl (by kernel_rfl) (by rfl) (v := ?_) ?_ ?_
        rotate_left
        ((intro wz hz; (try dsimp only at hz); go_simp) <;> with_reducible rfl)
        try simp only [Act.put, List.setIfInBounds_toArray, List.set_cons_zero, List.set_cons_succ]
        refine takeH 10 (fun _ _ _ _ _ h => h) (by kernel_rfl) hHeld rfl (by kernel_rfl) (by rfl) (v := ?_) ?_ ?_
        rotate_left
        ((intro wz hz; (try dsimp only at hz); go_simp) <;> with_reducible rfl)
        try simp only [Act.put, List.setIfInBounds_toArray, List.set_cons_zero, List.set_cons_succ]
        refine takeH 11 (fun _ _ _ _ _ h => h) (by kernel_rfl) hHeld rfl (by kernel_rfl) (by rfl) (v := ?_) ?_ ?_
        rotate_left
        ((intro wz hz; (try dsimp only at hz); go_simp) <;> with_reducible rfl)
        try simp only [Act.put, List.setIfInBounds_toArray, List.set_cons_zero, List.set_cons_succ]
        refine takeH 12 (fun _ _ _ _ _ h => h) (by kernel_rfl) hHeld rfl (by kernel_rfl) (by rfl) (v := ?_) ?_ ?_
        rotate_left
        ((intro wz hz; (try dsimp only at hz); go_simp) <;> with_reducible rfl)
        try simp only [Act.put, List.setIfInBounds_toArray, List.set_cons_zero, List.set_cons_succ]
        refine stepH 13 (by kernel_rfl) rfl (by rfl) (fun K hK => ?_)
        go_simp
        refine (cT.out _ hHeld.2.2).mono ?_
        rintro e w6 ⟨g6, rfl, hR6, hb6⟩
        have hcv := conv8 (cap := n) (n := n) hR6.bl hYl.out
        refine hK.out _ _ ?_ (fun hHeld => ?_)
        · exact ⟨own_conv (hHeld.2.1.below hb6), hHeld.2.1.below hb6, bThen hHeld.2.2 hb6 hHeld.2.2.size⟩
        clear hK K
        try simp only [Act.put, List.setIfInBounds_toArray, List.set_cons_zero, List.set_cons_succ]
        refine stepH 14 (by kernel_rfl) rfl (by rfl) (fun K hK => ?_)
        go_simp
        refine hK.out _ _ ?_ (fun hHeld => ?_)
        · exact hHeld
        clear hK K
        try simp only [Act.put, List.setIfInBounds_toArray, List.set_cons_zero, List.set_cons_succ]
        refine takeH 15 (fun _ _ _ _ _ h => h) (by kernel_rfl) hHeld rfl (by kernel_rfl) (by rfl) (v := ?_) ?_ ?_
        rotate_left
        ((intro wz hz; (try dsimp only at hz); go_simp) <;> with_reducible rfl)
        try simp only [Act.put, List.setIfInBounds_toArray, List.set_cons_zero, List.set_cons_succ]
        refine takeH 16 (fun _ _ _ _ _ h => h) (by kernel_rfl) hHeld rfl (by kernel_rfl) (by rfl) (v := ?_) ?_ ?_
        rotate_left
        ((intro wz hz; (try dsimp only at hz); go_simp) <;> with_reducible rfl)
        try simp only [Act.put, List.setIfInBounds_toArray, List.set_cons_zero, List.set_cons_succ]
        refine takeH 17 (fun _ _ _ _ _ h => h) (by kernel_rfl) hHeld rfl (by kernel_rfl) (by rfl) (v := ?_) ?_ ?_
        rotate_left
        ((intro wz hz; (try dsimp only at hz); go_simp) <;> with_reducible rfl)
        try simp only [Act.put, List.setIfInBounds_toArray, List.set_cons_zero, List.set_cons_succ]
        refine wpAnyH_done (by kernel_rfl) (NoPanic.normal ?_) _
        go_wp2
        go_ret
        exact ⟨rfl, hHeld.2.2⟩
      · have hne := strB_ne hMb.out hRb.out hNe
        replace hNe := Lib.hid hNe
        clear hb2 cO cR0
        go_wp2_with fail
        refine (lFitsY _ _ _ _ _).mono ?_
        rintro e w2' ⟨rfl, rfl⟩
        go_wp2_with fail
        refine wp_region_noPanic ?_
        refine wp_region_held_drew (S := fun wq => (convert 22 9 (.slice (some ⟨bs, os + n, none⟩) 16 (k3 - n))).run Try.prog wq = .ok (.string (strB Rr)) wq ∧ Below w2'.heap.size w2' wq) (by kernel_rfl) ?_ (fun hHeld => ?_)
        · exact ⟨conv8 (BR.out _ (bDrew (Below.refl _ _))) hRl.out, bDrew (Below.refl _ _)⟩
        refine takeH 0 (fun _ _ _ _ _ h => h) (by kernel_rfl) hHeld rfl (by kernel_rfl) (by rfl) (v := ?_) ?_ ?_
        rotate_left
        ((intro wz hz; (try dsimp only at hz); go_simp) <;> with_reducible rfl)
        try simp only [Act.put, List.setIfInBounds_toArray, List.set_cons_zero, List.set_cons_succ]
        refine takeH 1 (fun _ _ _ _ _ h => h) (by kernel_rfl) hHeld rfl (by kernel_rfl) (by rfl) (v := ?_) ?_ ?_
        rotate_left
        ((intro wz hz; (try dsimp only at hz); go_simp) <;> with_reducible rfl)
        try simp only [Act.put, List.setIfInBounds_toArray, List.set_cons_zero, List.set_cons_succ]
        refine takeH 2 (fun _ _ _ _ _ h => h) (by kernel_rfl) hHeld rfl (by kernel_rfl) (by rfl) (v := ?_) ?_ ?_
        rotate_left
        ((intro wz hz; (try dsimp only at hz); go_simp) <;> with_reducible rfl)
        try simp only [Act.put, List.setIfInBounds_toArray, List.set_cons_zero, List.set_cons_succ]
        refine takeH 3 (fun _ _ _ _ _ h => h) (by kernel_rfl) hHeld rfl (by kernel_rfl) (by rfl) (v := ?_) ?_ ?_
        rotate_left
        ((intro wz hz; (try dsimp only at hz); go_simp) <;> with_reducible rfl)
        try simp only [Act.put, List.setIfInBounds_toArray, List.set_cons_zero, List.set_cons_succ]
        refine takeH 4 (fun _ _ _ _ _ h => h) (by kernel_rfl) hHeld rfl (by kernel_rfl) (by rfl) (v := ?_) ?_ ?_
        rotate_left
        ((intro wz hz; (try dsimp only at hz); go_simp) <;> with_reducible rfl)
        try simp only [Act.put, List.setIfInBounds_toArray, List.set_cons_zero, List.set_cons_succ]
        refine takeH 5 (fun _ _ _ _ _ h => h) (by kernel_rfl) hHeld rfl (by kernel_rfl) (by rfl) (v := ?_) ?_ ?_
        rotate_left
        ((intro wz hz; (try dsimp only at hz); go_simp) <;> with_reducible rfl)
        try simp only [Act.put, List.setIfInBounds_toArray, List.set_cons_zero, List.set_cons_succ]
        refine takeH 6 (fun _ _ _ _ _ h => h) (by kernel_rfl) hHeld rfl (by kernel_rfl) (by rfl) (v := ?_) ?_ ?_
        rotate_left
        ((intro wz hz; (try dsimp only at hz); go_simp) <;> with_reducible rfl)
        try simp only [Act.put, List.setIfInBounds_toArray, List.set_cons_zero, List.set_cons_succ]
        refine takeH 7 (fun _ _ _ _ _ h => h) (by kernel_rfl) hHeld rfl (by kernel_rfl) (by rfl) (v := ?_) ?_ ?_
        rotate_left
        ((intro wz hz; (try dsimp only at hz); go_simp) <;> with_reducible rfl)
        try simp only [Act.put, List.setIfInBounds_toArray, List.set_cons_zero, List.set_cons_succ]
        refine takeH 8 (fun _ _ _ _ _ h => h) (by kernel_rfl) hHeld rfl (by kernel_rfl) (by rfl) (v := ?_) ?_ ?_
        rotate_left
        ((intro wz hz; (try dsimp only at hz); go_simp) <;> with_reducible rfl)
        try simp only [Act.put, List.setIfInBounds_toArray, List.set_cons_zero, List.set_cons_succ]
        refine takeH 11 (fun _ _ _ _ _ h => h) (by kernel_rfl) hHeld rfl (by kernel_rfl) (by rfl) (v := ?_) ?_ ?_
        rotate_left
        ((intro wz hz; (try dsimp only at hz); go_simp) <;> with_reducible rfl)
        try simp only [Act.put, List.setIfInBounds_toArray, List.set_cons_zero, List.set_cons_succ]
        refine takeH 12 (fun _ _ _ _ _ h => h) (by kernel_rfl) hHeld rfl (by kernel_rfl) (by rfl) (v := ?_) ?_ ?_
        rotate_left
        ((intro wz hz; (try dsimp only at hz); go_simp) <;> with_reducible rfl)
        try simp only [Act.put, List.setIfInBounds_toArray, List.set_cons_zero, List.set_cons_succ]
        refine takeH 13 (fun _ _ _ _ _ h => h) (by kernel_rfl) hHeld rfl (by kernel_rfl) (by rfl) (v := ?_) ?_ ?_
        rotate_left
        ((intro wz hz; (try dsimp only at hz); go_simp) <;> with_reducible rfl)
        try simp only [Act.put, List.setIfInBounds_toArray, List.set_cons_zero, List.set_cons_succ]
        refine takeH 14 (fun _ _ _ _ _ h => h) (by kernel_rfl) hHeld rfl (by kernel_rfl) (by rfl) (v := ?_) ?_ ?_
        rotate_left
        ((intro wz hz; (try dsimp only at hz); go_simp) <;> with_reducible rfl)
        try simp only [Act.put, List.setIfInBounds_toArray, List.set_cons_zero, List.set_cons_succ]
        refine stepH 9 (by kernel_rfl) rfl (by rfl) (fun K hK => ?_)
        go_simp
        refine (cR.out _ hHeld.2).mono ?_
        rintro e w4 ⟨g4, rfl, hR4, hg4, hb4⟩
        have hcv := conv8 (cap := 16) (n := 16) hR4.bl hMl.out
        refine hK.out _ _ ?_ (fun hHeld => ?_)
        · exact ⟨conv8 (BR.out _ (bThen hHeld.2 hb4 hHeld.2.size)) hRl.out, bThen hHeld.2 hb4 hHeld.2.size⟩
        clear hK K
        try simp only [Act.put, List.setIfInBounds_toArray, List.set_cons_zero, List.set_cons_succ]
        refine stepH 10 (by kernel_rfl) rfl (by rfl) (fun K hK => ?_)
        go_simp
        refine hK.out _ _ ?_ (fun hHeld => ?_)
        · exact hHeld
        clear hK K
        try simp only [Act.put, List.setIfInBounds_toArray, List.set_cons_zero, List.set_cons_succ]
        refine takeH 15 (fun _ _ _ _ _ h => h) (by kernel_rfl) hHeld rfl (by kernel_rfl) (by rfl) (v := ?_) ?_ ?_
        rotate_left
        ((intro wz hz; (try dsimp only at hz); go_simp) <;> with_reducible rfl)
        try simp only [Act.put, List.setIfInBounds_toArray, List.set_cons_zero, List.set_cons_succ]
        refine takeH 16 (fun _ _ _ _ _ h => h) (by kernel_rfl) hHeld rfl (by kernel_rfl) (by rfl) (v := ?_) ?_ ?_
        rotate_left
        ((intro wz hz; (try dsimp only at hz); go_simp) <;> with_reducible rfl)
        try simp only [Act.put, List.setIfInBounds_toArray, List.set_cons_zero, List.set_cons_succ]
        refine wpAnyH_done (by kernel_rfl) (NoPanic.normal ?_) _
        have B5 := Lib.hid (bThen B2.out hHeld.2 B2.out.size)
        clear hHeld
        go_wp2_with fail
        go_ret
        exact ⟨rfl, B5.out⟩
  · have cS := Lib.hid (fun W => qOpenN a0 a1 a2 a3 l0 l1 l2 l3 k0 k1 k2 k3 hk W)
    have cF := Lib.hid (fun W => lFitsN a0 a1 l0 l1 k0 k1 hk W)
    have hE := fun W => eqErrC W 1 1
    replace hk := Lib.hid hk
    go_wp2_with fail
    refine (cS.out _).mono ?_
    rintro e w2 ⟨rfl, rfl⟩
    go_wp2_with fail
    refine (cF.out _).mono ?_
    rintro e w2' ⟨rfl, rfl⟩
    go_wp2_with fail
    go_ret
    exact ⟨rfl, B1.out⟩

end Go.Proofs.Ytallfmiikjmgaaa
