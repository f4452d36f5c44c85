import Derived.Test.YtallfmiikjmgaaaZL6base
set_option linter.unusedVariables false
set_option linter.unusedSimpArgs false
/- The walk of the law CipherSeals. -/
namespace Go.Proofs.Ytallfmiikjmgaaa
open Go.RowKit

set_option maxRecDepth 8000 in
set_option maxHeartbeats 4000000 in
theorem walkCSeals (w : World) (a0 : Option Addr) (l0 k0 : Nat) (L0 : List Nat) (x0 : B8 l0 L0) (hl0 : l0 ≤ k0) (hc0 : k0 ≤ 9223372036854775807) (hn0 : a0 = none → l0 = 0 ∧ k0 = 0) (hb0 : 0 < l0 → ∃ b o, a0 = some ⟨b, o, none⟩ ∧ BL w b o L0) (a1 : Option Addr) (l1 k1 : Nat) (L1 : List Nat) (x1 : B8 l1 L1) (hl1 : l1 ≤ k1) (hc1 : k1 ≤ 9223372036854775807) (hn1 : a1 = none → l1 = 0 ∧ k1 = 0) (hb1 : 0 < l1 → ∃ b o, a1 = some ⟨b, o, none⟩ ∧ BL w b o L1) (a2 : Option Addr) (l2 k2 : Nat) (L2 : List Nat) (x2 : B8 l2 L2) (hl2 : l2 ≤ k2) (hc2 : k2 ≤ 9223372036854775807) (hn2 : a2 = none → l2 = 0 ∧ k2 = 0) (hb2 : 0 < l2 → ∃ b o, a2 = some ⟨b, o, none⟩ ∧ BL w b o L2) (a3 : Option Addr) (l3 k3 : Nat) (L3 : List Nat) (x3 : B8 l3 L3) (hl3 : l3 ≤ k3) (hc3 : k3 ≤ 9223372036854775807) (hn3 : a3 = none → l3 = 0 ∧ k3 = 0) (hb3 : 0 < l3 → ∃ b o, a3 = some ⟨b, o, none⟩ ∧ BL w b o L3) :
    Calls Try.prog 4 #[.slice a0 l0 k0, .slice a1 l1 k1, .slice a2 l2 k2, .slice a3 l3 k3] w fun e w' => e = .returned (.bool true) ∧ Below w.heap.size w w' := by
  have S0 := Lib.hid (sl6 x0 hl0 hc0 hn0 hb0)
  have S1 := Lib.hid (sl6 x1 hl1 hc1 hn1 hb1)
  have S2 := Lib.hid (sl6 x2 hl2 hc2 hn2 hb2)
  have S3 := Lib.hid (sl6 x3 hl3 hc3 hn3 hb3)
  have cU := Lib.hid (up6 w)
  clear hn0 hb0 hn1 hb1 hn2 hb2 hn3 hb3
  go_enter Try.func4, Try.ntmps4
  go_wp2_with fail
  refine cU.out.mono ?_
  rintro e w1 ⟨rfl, hb1⟩
  have B1 := Lib.hid hb1
  clear hb1 cU
  by_cases h2 : 1000 < l2
  · have h2i : (1000 : Int) < (l2 : Int) := by omega
    go_wp2_with fail
    go_ret
    exact ⟨rfl, B1.out⟩
  have h2i : ¬ (1000 : Int) < (l2 : Int) := by omega
  by_cases h3 : 1000 < l3
  · have h3i : (1000 : Int) < (l3 : Int) := by omega
    go_wp2_with fail
    go_ret
    exact ⟨rfl, B1.out⟩
  have h3i : ¬ (1000 : Int) < (l3 : Int) := by omega
  by_cases hk : l0 = 32 ∧ l1 = 12
  · obtain ⟨rfl, rfl⟩ := hk
    obtain ⟨bk, ok, rfl, hbk, hBK, hck⟩ := S0.out.key x0 (by omega)
    obtain ⟨bn, on, rfl, hbn, hBN, hcn⟩ := S1.out.key x1 (by omega)
    have cS := Lib.hid (qSeal bk ok k0 bn on k1 L0 L1 x0 x1 hck hcn (.slice a2 l2 k2) L2 a3 l3 k3 L3 x3 (by omega) w1 (Nat.lt_of_lt_of_le hbk B1.out.size) (Nat.lt_of_lt_of_le hbn B1.out.size) (hBK.below B1.out hbk) (hBN.below B1.out hbn) ((S2.out.next B1.out).seg x2 (by omega)) (S3.out.next B1.out))
    have cT := Lib.hid (fun W (hw : Below w.heap.size w W) => rStream bk ok k0 bn on k1 L0 L1 x0 x1 a3 l3 k3 L3 x3 (by omega) (fun h => by have := S3.out.no h; rw [x3.len] at this; exact this) W (Nat.lt_of_lt_of_le hbk hw.size) (Nat.lt_of_lt_of_le hbn hw.size) (hBK.below hw hbk) (hBN.below hw hbn) (fun h => by rw [← x3.len] at h; obtain ⟨b, o, e1, e2, e3⟩ := (S3.out.next hw).bl h; exact ⟨b, o, e1, e2, e3⟩))
    have hX : Obol.strmS L0 L1 L3 l3 l3 = Obol.strm L0 L1 L3 := by have h := Obol.strm_ref L0 L1 L3; rwa [x3.len] at h
    rw [hX] at cT
    have hXl : Hid ((Obol.strm L0 L1 L3).length = l3) := Lib.hid (by rw [Obol.strm_len, x3.len])
    have hXb := Lib.hid (Obol.strm_lt L0 L1 x3.lt)
    have hMl := Lib.hid (Obol.bothL_len L0 L1 L2 (Obol.strm L0 L1 L3))
    obtain ⟨X, hXe⟩ : ∃ l, Obol.strm L0 L1 L3 = l := ⟨_, rfl⟩
    rw [hXe] at cS cT hXl hXb hMl
    have cR := Lib.hid (fun (gc : Nat) W (hw : Below w.heap.size w W) (hbl : BL W gc 0 X) (hgc : gc < W.heap.size) => rBoth bk ok k0 bn on k1 L0 L1 x0 x1 (.slice a2 l2 k2) (.slice (some ⟨gc, 0, none⟩) l3 l3) L2 X W (Nat.lt_of_lt_of_le hbk hw.size) (Nat.lt_of_lt_of_le hbn hw.size) (hBK.below hw hbk) (hBN.below hw hbn) ((S2.out.next hw).seg x2 (by omega)) ⟨_, _, by rw [hXl.out], ⟨by rw [hXl.out]; exact Nat.le_refl _, by omega, (fun h => by cases h), fun _ => ⟨_, _, rfl, hgc, hbl⟩⟩, hXb.out, by rw [hXl.out]; omega⟩)
    obtain ⟨M, hM⟩ : ∃ l, Obol.bothL L0 L1 L2 X = l := ⟨_, rfl⟩
    rw [hM] at cS cR hMl
    have hSl : Hid ((X ++ M).length = l3 + 16) := Lib.hid (by rw [List.length_append, hXl.out, hMl.out])
    have happ := strB_app X M
    have hsz : ¬ 9223372036854775807 < (strB X).size + (strB M).size := by rw [strB_size, strB_size, hXl.out, hMl.out]; omega
    replace hXe := Lib.hid hXe
    replace hM := Lib.hid hM
    clear hbk hBK hbn hBN hX
    go_wp2_with fail
    refine cS.out.mono ?_
    rintro e w2 ⟨g, c2, rfl, hO, hb2⟩
    have B2 := Lib.hid (bThen B1.out hb2 B1.out.size)
    have bl2 := Lib.hid (own_blz hO hSl.out)
    have hgl2 := Lib.hid (own_lt hO)
    clear hO hb2 B1 cS
    go_wp2_with fail
    refine (lFitsY _ _ _ _ _).mono ?_
    rintro e w2' ⟨rfl, rfl⟩
    go_wp2_with fail
    refine (cT.out _ B2.out).mono ?_
    rintro e w3 ⟨rfl, hR3, hb3⟩
    have B3 := Lib.hid (bThen B2.out hb3 B2.out.size)
    have bl := Lib.hid (bl2.out.below hb3 hgl2.out)
    have hgl := Nat.lt_of_lt_of_le hgl2.out hb3.size
    obtain ⟨gc, hgce⟩ : ∃ z, w2'.heap.size = z := ⟨_, rfl⟩
    rw [hgce] at hR3 ⊢
    have hgc := hR3.lt
    have blc := Lib.hid hR3.bl
    replace hgce := Lib.hid hgce
    replace cR := Lib.hid (cR.out gc)
    clear hR3 hb3 B2 bl2 hgl2 cT
    go_wp2_with fail
    refine wp_region_noPanic ?_
    refine wp_region_held_drew (S := fun wq => (convert 22 9 (.slice (some ⟨g, 0, none⟩) (l3 + 16) c2)).run Try.prog wq = .ok (.string (strB (X ++ M))) wq ∧ (convert 22 9 (.slice (some ⟨gc, 0, none⟩) l3 l3)).run Try.prog wq = .ok (.string (strB X)) wq ∧ BL wq g 0 (X ++ M) ∧ g < wq.heap.size ∧ BL wq gc 0 X ∧ gc < wq.heap.size ∧ Below w.heap.size w wq) (by kernel_rfl) ?_ (fun hHeld => ?_)
    · exact ⟨conv8 (fun i hi => bl.out i hi) hSl.out, conv8 (fun i hi => blc.out i hi) hXl.out, fun i hi => bl.out i hi, hgl, fun i hi => blc.out i hi, hgc, bDrew B3.out⟩
    refine takeH 0 (fun _ _ _ _ _ h => h) (by kernel_rfl) hHeld rfl (by kernel_rfl) (by rfl) (v := ?_) ?_ ?_
    rotate_left
    ((intro wz hz; (try dsimp only at hz); go_simp) <;> with_reducible rfl)
    try simp only [Act.put, List.setIfInBounds_toArray, List.set_cons_zero, List.set_cons_succ]
    refine takeH 1 (fun _ _ _ _ _ h => h) (by kernel_rfl) hHeld rfl (by kernel_rfl) (by rfl) (v := ?_) ?_ ?_
    rotate_left
    ((intro wz hz; (try dsimp only at hz); go_simp) <;> with_reducible rfl)
    try simp only [Act.put, List.setIfInBounds_toArray, List.set_cons_zero, List.set_cons_succ]
    refine takeH 2 (fun _ _ _ _ _ h => h) (by kernel_rfl) hHeld rfl (by kernel_rfl) (by rfl) (v := ?_) ?_ ?_
    rotate_left
    ((intro wz hz; (try dsimp only at hz); go_simp) <;> with_reducible rfl)
    try simp only [Act.put, List.setIfInBounds_toArray, List.set_cons_zero, List.set_cons_succ]
    refine takeH 3 (fun _ _ _ _ _ h => h) (by kernel_rfl) hHeld rfl (by kernel_rfl) (by rfl) (v := ?_) ?_ ?_
    rotate_left
    ((intro wz hz; (try dsimp only at hz); go_simp) <;> with_reducible rfl)
    try simp only [Act.put, List.setIfInBounds_toArray, List.set_cons_zero, List.set_cons_succ]
    refine takeH 4 (fun _ _ _ _ _ h => h) (by kernel_rfl) hHeld rfl (by kernel_rfl) (by rfl) (v := ?_) ?_ ?_
    rotate_left
    ((intro wz hz; (try dsimp only at hz); go_simp) <;> with_reducible rfl)
    try simp only [Act.put, List.setIfInBounds_toArray, List.set_cons_zero, List.set_cons_succ]
    refine takeH 5 (fun _ _ _ _ _ h => h) (by kernel_rfl) hHeld rfl (by kernel_rfl) (by rfl) (v := ?_) ?_ ?_
    rotate_left
    ((intro wz hz; (try dsimp only at hz); go_simp) <;> with_reducible rfl)
    try simp only [Act.put, List.setIfInBounds_toArray, List.set_cons_zero, List.set_cons_succ]
    refine takeH 6 (fun _ _ _ _ _ h => h) (by kernel_rfl) hHeld rfl (by kernel_rfl) (by rfl) (v := ?_) ?_ ?_
    rotate_left
    ((intro wz hz; (try dsimp only at hz); go_simp) <;> with_reducible rfl)
    try simp only [Act.put, List.setIfInBounds_toArray, List.set_cons_zero, List.set_cons_succ]
    refine takeH 7 (fun _ _ _ _ _ h => h) (by kernel_rfl) hHeld rfl (by kernel_rfl) (by rfl) (v := ?_) ?_ ?_
    rotate_left
    ((intro wz hz; (try dsimp only at hz); go_simp) <;> with_reducible rfl)
    try simp only [Act.put, List.setIfInBounds_toArray, List.set_cons_zero, List.set_cons_succ]
    refine takeH 8 (fun _ _ _ _ _ h => h) (by kernel_rfl) hHeld rfl (by kernel_rfl) (by rfl) (v := ?_) ?_ ?_
    rotate_left
    ((intro wz hz; (try dsimp only at hz); go_simp) <;> with_reducible rfl)
    try simp only [Act.put, List.setIfInBounds_toArray, List.set_cons_zero, List.set_cons_succ]
    refine takeH 9 (fun _ _ _ _ _ h => h) (by kernel_rfl) hHeld rfl (by kernel_rfl) (by rfl) (v := ?_) ?_ ?_
    rotate_left
    ((intro wz hz; (try dsimp only at hz); go_simp) <;> with_reducible rfl)
    try simp only [Act.put, List.setIfInBounds_toArray, List.set_cons_zero, List.set_cons_succ]
    refine takeH 10 (fun _ _ _ _ _ h => h) (by kernel_rfl) hHeld rfl (by kernel_rfl) (by rfl) (v := ?_) ?_ ?_
    rotate_left
    ((intro wz hz; (try dsimp only at hz); go_simp) <;> with_reducible rfl)
    try simp only [Act.put, List.setIfInBounds_toArray, List.set_cons_zero, List.set_cons_succ]
    refine takeH 11 (fun _ _ _ _ _ h => h) (by kernel_rfl) hHeld rfl (by kernel_rfl) (by rfl) (v := ?_) ?_ ?_
    rotate_left
    ((intro wz hz; (try dsimp only at hz); go_simp) <;> with_reducible rfl)
    try simp only [Act.put, List.setIfInBounds_toArray, List.set_cons_zero, List.set_cons_succ]
    refine takeH 12 (fun _ _ _ _ _ h => h) (by kernel_rfl) hHeld rfl (by kernel_rfl) (by rfl) (v := ?_) ?_ ?_
    rotate_left
    ((intro wz hz; (try dsimp only at hz); go_simp) <;> with_reducible rfl)
    try simp only [Act.put, List.setIfInBounds_toArray, List.set_cons_zero, List.set_cons_succ]
    refine takeH 13 (fun _ _ _ _ _ h => h) (by kernel_rfl) hHeld rfl (by kernel_rfl) (by rfl) (v := ?_) ?_ ?_
    rotate_left
    ((intro wz hz; (try dsimp only at hz); go_simp) <;> with_reducible rfl)
    try simp only [Act.put, List.setIfInBounds_toArray, List.set_cons_zero, List.set_cons_succ]
    refine stepH 14 (by kernel_rfl) rfl (by rfl) (fun K hK => ?_)
    go_simp
    refine (cR.out _ hHeld.2.2.2.2.2.2 hHeld.2.2.2.2.1 hHeld.2.2.2.2.2.1).mono ?_
    rintro e w4 ⟨g4, rfl, hR4, hg4, hb4⟩
    have hcv := conv8 (cap := 16) (n := 16) hR4.bl hMl.out
    refine hK.out _ _ ?_ (fun hHeld => ?_)
    · exact ⟨conv8 (hHeld.2.2.1.below hb4 hHeld.2.2.2.1) hSl.out, conv8 (hHeld.2.2.2.2.1.below hb4 hHeld.2.2.2.2.2.1) hXl.out, hHeld.2.2.1.below hb4 hHeld.2.2.2.1, Nat.lt_of_lt_of_le hHeld.2.2.2.1 hb4.size, hHeld.2.2.2.2.1.below hb4 hHeld.2.2.2.2.2.1, Nat.lt_of_lt_of_le hHeld.2.2.2.2.2.1 hb4.size, bThen hHeld.2.2.2.2.2.2 hb4 hHeld.2.2.2.2.2.2.size⟩
    clear hK K
    try simp only [Act.put, List.setIfInBounds_toArray, List.set_cons_zero, List.set_cons_succ]
    refine stepH 15 (by kernel_rfl) rfl (by rfl) (fun K hK => ?_)
    go_simp
    refine hK.out _ _ ?_ (fun hHeld => ?_)
    · exact hHeld
    clear hK K
    try simp only [Act.put, List.setIfInBounds_toArray, List.set_cons_zero, List.set_cons_succ]
    refine takeH 16 (fun _ _ _ _ _ h => h) (by kernel_rfl) hHeld rfl (by kernel_rfl) (by rfl) (v := ?_) ?_ ?_
    rotate_left
    ((intro wz hz; (try dsimp only at hz); go_simp) <;> with_reducible rfl)
    try simp only [Act.put, List.setIfInBounds_toArray, List.set_cons_zero, List.set_cons_succ]
    refine takeH 17 (fun _ _ _ _ _ h => h) (by kernel_rfl) hHeld rfl (by kernel_rfl) (by rfl) (v := ?_) ?_ ?_
    rotate_left
    ((intro wz hz; (try dsimp only at hz); go_simp) <;> with_reducible rfl)
    try simp only [Act.put, List.setIfInBounds_toArray, List.set_cons_zero, List.set_cons_succ]
    refine takeH 18 (fun _ _ _ _ _ h => h) (by kernel_rfl) hHeld rfl (by kernel_rfl) (by rfl) (v := ?_) ?_ ?_
    rotate_left
    ((intro wz hz; (try dsimp only at hz); go_simp) <;> with_reducible rfl)
    try simp only [Act.put, List.setIfInBounds_toArray, List.set_cons_zero, List.set_cons_succ]
    refine takeH 19 (fun _ _ _ _ _ h => h) (by kernel_rfl) hHeld rfl (by kernel_rfl) (by rfl) (v := ?_) ?_ ?_
    rotate_left
    ((intro wz hz; (try dsimp only at hz); go_simp) <;> with_reducible rfl)
    try simp only [Act.put, List.setIfInBounds_toArray, List.set_cons_zero, List.set_cons_succ]
    refine wpAnyH_done (by kernel_rfl) (NoPanic.normal ?_) _
    go_wp2
    go_ret
    exact ⟨rfl, hHeld.2.2.2.2.2.2⟩
  · have cS := Lib.hid (fun W => qSealN a0 a1 a2 a3 l0 l1 l2 l3 k0 k1 k2 k3 hk W)
    have cF := Lib.hid (fun W => lFitsN a0 a1 l0 l1 k0 k1 hk W)
    have hE := fun W => eqErrC W 1 1
    replace hk := Lib.hid hk
    go_wp2_with fail
    refine (cS.out _).mono ?_
    rintro e w2 ⟨rfl, rfl⟩
    go_wp2_with fail
    refine (cF.out _).mono ?_
    rintro e w2' ⟨rfl, rfl⟩
    go_wp2_with fail
    go_ret
    exact ⟨rfl, B1.out⟩

end Go.Proofs.Ytallfmiikjmgaaa
