import Derived.Test.YtallfmiikjmgaaaZL6base
set_option linter.unusedVariables false
set_option linter.unusedSimpArgs false
/- The walk of the law CipherBack. -/
namespace Obol
theorem xor_ne {x y : Nat} (h : y ≠ 0) : x ^^^ y ≠ x := fun e => h (by
  have h2 : x ^^^ (x ^^^ y) = x ^^^ x := by rw [e]
  rwa [← Nat.xor_assoc, Nat.xor_self, Nat.zero_xor] at h2)
/-- What is turned in one byte and still opened: a byte of the text, and another text. -/
theorem turn_apart {K N D T : List Nat} {n a y v : Nat} (hn : T.length = n) (ha : a < n + 16) (hy : y ≠ 0) (hv : v = (strm K N T ++ bothL K N D (strm K N T)).getD a 0 ^^^ y)
    (h : bothL K N D (((strm K N T ++ bothL K N D (strm K N T)).set a v).take n) = ((strm K N T ++ bothL K N D (strm K N T)).set a v).drop n) :
    a < n ∧ strm K N (((strm K N T ++ bothL K N D (strm K N T)).set a v).take n) ≠ T := by
  have hl := sealed_len K N D T
  have ht := back_take K N D T hn
  have hd := back_drop K N D T hn
  generalize strm K N T ++ bothL K N D (strm K N T) = S at *
  rw [hn] at hl
  have hne : v ≠ S.getD a 0 := by rw [hv]; exact xor_ne hy
  have hg : (S.set a v).getD a 0 = v := by rw [getD_set _ _ _ _ (by omega), if_pos rfl]
  by_cases han : a < n
  · refine ⟨han, fun e => hne ?_⟩
    have e2 : (S.set a v).take n = strm K N T := by rw [← e, strm_back]
    rw [← ht] at e2
    have e3 := congrArg (fun l : List Nat => l.getD a 0) e2
    simp only [getD_take, if_pos han, hg] at e3
    exact e3
  · exfalso
    have e1 : (S.set a v).take n = S.take n := ext_getD (by simp) fun i hi => by
      have : i < n := by rw [List.length_take] at hi; omega
      rw [getD_take, getD_take, if_pos this, if_pos this, getD_set _ _ _ _ (by omega), if_neg (by omega)]
    rw [e1, ht, ← hd] at h
    have e3 := congrArg (fun l : List Nat => l.getD (a - n) 0) h
    simp only [getD_drop, show n + (a - n) = a by omega, hg] at e3
    exact hne e3.symm
end Obol
namespace Go.Proofs.Ytallfmiikjmgaaa
open Go.RowKit

theorem own_drew {w : World} {base : Nat} {v : Value} {L : List Nat} (h : OwnB w base v L) : OwnB w.drew base v L := h
theorem tailBL {w : World} {base g n cap m : Nat} {S R : List Nat} (h : OwnB w base (.slice (some ⟨g, 0, none⟩) m cap) S) (hm : S.length = m) (hR : S.drop n = R) : BL w g n R := fun i hi => by
  subst hR
  rw [List.length_drop] at hi
  have := own_blz h hm (n + i) (by omega)
  rw [Nat.zero_add] at this
  rw [this, Obol.getD_drop]

set_option maxRecDepth 8000 in
set_option maxHeartbeats 8000000 in
theorem walkCBack (w : World) (a0 : Option Addr) (l0 k0 : Nat) (L0 : List Nat) (x0 : B8 l0 L0) (hl0 : l0 ≤ k0) (hc0 : k0 ≤ 9223372036854775807) (hn0 : a0 = none → l0 = 0 ∧ k0 = 0) (hb0 : 0 < l0 → ∃ b o, a0 = some ⟨b, o, none⟩ ∧ BL w b o L0) (a1 : Option Addr) (l1 k1 : Nat) (L1 : List Nat) (x1 : B8 l1 L1) (hl1 : l1 ≤ k1) (hc1 : k1 ≤ 9223372036854775807) (hn1 : a1 = none → l1 = 0 ∧ k1 = 0) (hb1 : 0 < l1 → ∃ b o, a1 = some ⟨b, o, none⟩ ∧ BL w b o L1) (a2 : Option Addr) (l2 k2 : Nat) (L2 : List Nat) (x2 : B8 l2 L2) (hl2 : l2 ≤ k2) (hc2 : k2 ≤ 9223372036854775807) (hn2 : a2 = none → l2 = 0 ∧ k2 = 0) (hb2 : 0 < l2 → ∃ b o, a2 = some ⟨b, o, none⟩ ∧ BL w b o L2) (a3 : Option Addr) (l3 k3 : Nat) (L3 : List Nat) (x3 : B8 l3 L3) (hl3 : l3 ≤ k3) (hc3 : k3 ≤ 9223372036854775807) (hn3 : a3 = none → l3 = 0 ∧ k3 = 0) (hb3 : 0 < l3 → ∃ b o, a3 = some ⟨b, o, none⟩ ∧ BL w b o L3) (at' by' : Int) (hat0 : -9223372036854775808 ≤ at') (hat1 : at' ≤ 9223372036854775807) (hby0 : 0 ≤ by') (hby1 : by' ≤ 255) :
    Calls Try.prog 6 #[.slice a0 l0 k0, .slice a1 l1 k1, .slice a2 l2 k2, .slice a3 l3 k3, .int .i64 at', .int .u8 by'] w fun e w' => e = .returned (.bool true) ∧ Below w.heap.size w w' := by
  have S0 := Lib.hid (sl6 x0 hl0 hc0 hn0 hb0)
  have S1 := Lib.hid (sl6 x1 hl1 hc1 hn1 hb1)
  have S2 := Lib.hid (sl6 x2 hl2 hc2 hn2 hb2)
  have S3 := Lib.hid (sl6 x3 hl3 hc3 hn3 hb3)
  have cU := Lib.hid (up6 w)
  clear hn0 hb0 hn1 hb1 hn2 hb2 hn3 hb3
  go_enter Try.func6, Try.ntmps6
  go_wp2_with fail
  refine cU.out.mono ?_
  rintro e w1 ⟨rfl, hb1⟩
  have B1 := Lib.hid hb1
  clear hb1 cU
  by_cases hk : l0 = 32 ∧ l1 = 12
  · obtain ⟨rfl, rfl⟩ := hk
    obtain ⟨bk, ok, rfl, hbk, hBK, hck⟩ := S0.out.key x0 (by omega)
    obtain ⟨bn, on, rfl, hbn, hBN, hcn⟩ := S1.out.key x1 (by omega)
    go_wp2_with fail
    refine (lFitsY _ _ _ _ _).mono ?_
    rintro e w1' ⟨rfl, rfl⟩
    by_cases h2 : 500 < l2
    · have h2i : (500 : Int) < (l2 : Int) := by omega
      go_wp2_with fail
      go_ret
      exact ⟨rfl, B1.out⟩
    have h2i : ¬ (500 : Int) < (l2 : Int) := by omega
    by_cases h3 : 500 < l3
    · have h3i : (500 : Int) < (l3 : Int) := by omega
      go_wp2_with fail
      go_ret
      exact ⟨rfl, B1.out⟩
    have h3i : ¬ (500 : Int) < (l3 : Int) := by omega
    have cS := Lib.hid (qSeal bk ok k0 bn on k1 L0 L1 x0 x1 hck hcn (.slice a2 l2 k2) L2 a3 l3 k3 L3 x3 (by omega) w1' (Nat.lt_of_lt_of_le hbk B1.out.size) (Nat.lt_of_lt_of_le hbn B1.out.size) (hBK.below B1.out hbk) (hBN.below B1.out hbn) ((S2.out.next B1.out).seg x2 (by omega)) (S3.out.next B1.out))
    have cO := Lib.hid (fun g c2 base S (hSl : S.length = l3 + 16) (hSb : ∀ i, S.getD i 0 < 256) W (hw : Below w.heap.size w W) (hO : OwnB W base (.slice (some ⟨g, 0, none⟩) (l3 + 16) c2) S) => qOpen bk ok k0 bn on k1 L0 L1 x0 x1 hck hcn (.slice a2 l2 k2) L2 (some ⟨g, 0, none⟩) l3 c2 S ⟨hSl, hSb⟩ (by omega) W (Nat.lt_of_lt_of_le hbk hw.size) (Nat.lt_of_lt_of_le hbn hw.size) (hBK.below hw hbk) (hBN.below hw hbn) ((S2.out.next hw).seg x2 (by omega)) (own_sli hO))
    have cR0 := Lib.hid (fun g c2 base S (hSl : S.length = l3 + 16) (hSb : ∀ i, S.getD i 0 < 256) W (hw : Below w.heap.size w W) (hO : OwnB W base (.slice (some ⟨g, 0, none⟩) (l3 + 16) c2) S) => rBoth bk ok k0 bn on k1 L0 L1 x0 x1 (.slice a2 l2 k2) (.slice (some ⟨g, 0, none⟩) l3 c2) L2 (S.take l3) W (Nat.lt_of_lt_of_le hbk hw.size) (Nat.lt_of_lt_of_le hbn hw.size) (hBK.below hw hbk) (hBN.below hw hbn) ((S2.out.next hw).seg x2 (by omega)) ⟨_, c2, by rw [List.length_take, hSl, show min l3 (l3 + 16) = l3 by omega], by
      have h := own_sli hO
      exact ⟨by have := h.le; rw [List.length_take]; omega, h.cap, (fun h => by cases h), fun _ => ⟨g, 0, rfl, own_lt hO, fun i hi => by
        rw [List.length_take] at hi
        rw [own_blz hO hSl i (by omega), Obol.getD_take, if_pos (by omega)]⟩⟩, (fun i => by rw [Obol.getD_take]; split; exact hSb i; decide), by rw [List.length_take]; omega⟩)
    clear hbk hBK hbn hBN
    go_wp2_with fail
    refine cS.out.mono ?_
    rintro e w2 ⟨g, c2, rfl, hO, hb2⟩
    have B2 := Lib.hid (bThen B1.out hb2 B1.out.size)
    have O2 := Lib.hid (hO.base B1.out.size)
    have hSl0 := Obol.sealed_len L0 L1 L2 L3
    rw [x3.len] at hSl0
    have hSb0 := Obol.sealed_lt L0 L1 L2 x3.lt
    have cO1 := cO.out g c2 _ _ hSl0 hSb0 w2 B2.out O2.out
    rw [Obol.back_take L0 L1 L2 L3 x3.len, Obol.back_drop L0 L1 L2 L3 x3.len, Obol.strm_back] at cO1
    replace cO1 := Lib.hid cO1
    have hap := Lib.hid (fun a y v (ha : a < l3 + 16) (hy : y ≠ 0) hv h => Obol.turn_apart (K := L0) (N := L1) (D := L2) (T := L3) (n := l3) (a := a) (y := y) (v := v) x3.len ha hy hv h)
    obtain ⟨S, hS⟩ : ∃ l, Obol.strm L0 L1 L3 ++ Obol.bothL L0 L1 L2 (Obol.strm L0 L1 L3) = l := ⟨_, rfl⟩
    rw [hS] at hSl0 hSb0 O2 hap
    replace hS := Lib.hid hS
    replace hSb0 := Lib.hid hSb0
    clear hO hb2 B1 cS
    go_wp2_with fail
    refine cO1.out.mono ?_
    rintro e w3 ⟨he, hb3⟩
    rcases he with ⟨-, a5, c5, rfl, hO5⟩ | ⟨hne, -⟩
    case inr => exact absurd rfl hne
    have B3 := Lib.hid (bThen B2.out hb3 B2.out.size)
    have O3 := Lib.hid (O2.out.below hb3)
    have hcv1 := own_conv hO5
    have hcv2 := (S3.out.next B3.out).conv x3.len
    clear hO5 hb3 B2 O2 cO1
    by_cases hz : by' = 0
    · subst hz
      go_wp2_with fail
      go_ret
      exact ⟨rfl, B3.out⟩
    have hzb : (by' == 0) = false := beq_eq_false_iff_ne.2 hz
    by_cases hneg : at' < 0
    · replace hz := Lib.hid hz
      go_wp2_with fail
      go_ret
      exact ⟨rfl, B3.out⟩
    by_cases hbig : (l3 : Int) + 16 ≤ at'
    · replace hz := Lib.hid hz
      go_wp2_with fail
      go_ret
      exact ⟨rfl, B3.out⟩
    have at0 : 0 ≤ at' := by omega
    have at1 : at' < (l3 : Int) + 16 := by omega
    have hcp := own_cap O3.out
    have hsl := fun W => slice_rest (P := Try.prog) 22 5 Try.underlying22 info8 g 0 (l3 + 16) c2 l3 (by omega) (by omega) W
    rw [if_neg (by omega), show l3 + 16 - l3 = 16 by omega, Nat.zero_add] at hsl
    have hlc : (l3 : Int) ≤ (c2 : Int) := by omega
    have hlc2 : l3 ≤ c2 := by omega
    obtain ⟨p, hp⟩ : ∃ p : Int, ((S.getD at'.toNat 0 : Nat) : Int) = p := ⟨_, rfl⟩
    have hpb := hSb0.out at'.toNat
    have p1 : p ≤ 255 := by omega
    have ca := own_cell O3.out hSl0 (i := at') at0 (by omega)
    rw [hp] at ca
    have fa := own_free O3.out hSl0 at'.toNat
    obtain ⟨y, hy⟩ : ∃ y : Nat, (y : Int) = by' := ⟨by'.toNat, by omega⟩
    have hxy := xor_byte hp hy p1 hby1
    obtain ⟨v, hv⟩ : ∃ v, S.getD at'.toNat 0 ^^^ y = v := ⟨_, rfl⟩
    rw [hv] at hxy
    have hv8 : v < 256 := by rw [← hv]; exact Obol.xor_b hpb (by omega)
    have O4 := Lib.hid (own_set O3.out hSl0 at'.toNat v rfl)
    have B4 := Lib.hid (bSet (u := .int .u8 (v : Int)) (o := at'.toNat) B3.out (own_ge O3.out))
    have hap2 := hap.out at'.toNat y v (by omega) (by omega) hv.symm
    obtain ⟨S2', hS2⟩ : ∃ l, S.set at'.toNat v = l := ⟨_, rfl⟩
    rw [hS2] at O4 hap2
    have hS2l : Hid (S2'.length = l3 + 16) := Lib.hid (by rw [← hS2, List.length_set, hSl0])
    have hS2b : Hid (∀ i, S2'.getD i 0 < 256) := Lib.hid (fun i => by
      rw [← hS2, Obol.getD_set _ _ _ _ (by omega)]
      split
      · exact hv8
      · exact hSb0.out i)
    have cO2 := Lib.hid (cO.out g c2 _ _ hS2l.out hS2b.out _ B4.out O4.out)
    obtain ⟨Rr, hRr⟩ : ∃ l, S2'.drop l3 = l := ⟨_, rfl⟩
    have hRl : Hid (Rr.length = 16) := Lib.hid (by rw [← hRr, List.length_drop, hS2l.out]; omega)
    have hRb : Hid (∀ i, Rr.getD i 0 < 256) := Lib.hid (fun i => by rw [← hRr, Obol.getD_drop]; exact hS2b.out _)
    rw [hRr] at hap2 cO2
    have hRd := Lib.hid hRr
    replace hap2 := Lib.hid hap2
    replace hy := Lib.hid hy
    replace hz := Lib.hid hz
    replace hp := Lib.hid hp
    replace hv := Lib.hid hv
    replace hS2 := Lib.hid hS2
    replace hSl0 := Lib.hid hSl0
    clear hRr cO hap hpb O3 B3 hcp
    go_wp2_with fail
    clear ca fa hxy hcv1 hcv2
    refine cO2.out.mono ?_
    rintro e w5 ⟨he, hb5⟩
    have B5 := Lib.hid (bThen B4.out hb5 B4.out.size)
    rcases he with ⟨hEq, a6, c6, rfl, hU⟩ | ⟨hNe, rfl⟩
    · obtain ⟨hlt, hYne⟩ := hap2.out hEq
      have cR := cR0.out g c2 w.heap.size S2' hS2l.out hS2b.out
      rw [hEq] at cR
      replace cR := Lib.hid cR
      have O5 := Lib.hid (O4.out.below hb5)
      have U5 := Lib.hid (hU.base B4.out.size)
      have hYb : ∀ i, (Obol.strm L0 L1 (S2'.take l3)).getD i 0 < 256 := Obol.strm_lt L0 L1 (fun i => by rw [Obol.getD_take]; split; exact hS2b.out i; decide)
      obtain ⟨Y, hY⟩ : ∃ l, Obol.strm L0 L1 (S2'.take l3) = l := ⟨_, rfl⟩
      rw [hY] at U5 hYne hYb
      have hne2 := strB_ne hYb x3.lt hYne
      have hlti : at' < (l3 : Int) := by omega
      replace hY := Lib.hid hY
      replace hEq := Lib.hid hEq
      clear hU hb5 hYb hYne O4 B4 cO2
      go_wp2_with fail
      refine wp_region_noPanic ?_
      refine wp_region_held_drew (S := fun wq => (convert 22 9 (.slice (some ⟨g, l3, none⟩) 16 (c2 - l3))).run Try.prog wq = .ok (.string (strB Rr)) wq ∧ (convert 22 9 (.slice a6 l3 c6)).run Try.prog wq = .ok (.string (strB Y)) wq ∧ (convert 22 9 (.slice a3 l3 k3)).run Try.prog wq = .ok (.string (strB L3)) wq ∧ OwnB wq w.heap.size (.slice (some ⟨g, 0, none⟩) (l3 + 16) c2) S2' ∧ OwnB wq w.heap.size (.slice a6 l3 c6) Y ∧ Below w.heap.size w wq) (by kernel_rfl) ?_ (fun hHeld => ?_)
      · exact ⟨conv8 (tailBL (own_drew O5.out) hS2l.out hRd.out) hRl.out, own_conv (own_drew U5.out), (S3.out.next (bDrew B5.out)).conv x3.len, (own_drew O5.out), (own_drew U5.out), (bDrew B5.out)⟩
      refine takeH 0 (fun _ _ _ _ _ h => h) (by kernel_rfl) hHeld rfl (by kernel_rfl) (by rfl) (v := ?_) ?_ ?_
      rotate_left
      ((intro wz hz; (try dsimp only at hz); go_simp) <;> with_reducible rfl)
      try simp only [Act.put, List.setIfInBounds_toArray, List.set_cons_zero, List.set_cons_succ]
      refine takeH 1 (fun _ _ _ _ _ h => h) (by kernel_rfl) hHeld rfl (by kernel_rfl) (by rfl) (v := ?_) ?_ ?_
      rotate_left
      ((intro wz hz; (try dsimp only at hz); go_simp) <;> with_reducible rfl)
      try simp only [Act.put, List.setIfInBounds_toArray, List.set_cons_zero, List.set_cons_succ]
      refine takeH 2 (fun _ _ _ _ _ h => h) (by kernel_rfl) hHeld rfl (by kernel_rfl) (by rfl) (v := ?_) ?_ ?_
      rotate_left
      ((intro wz hz; (try dsimp only at hz); go_simp) <;> with_reducible rfl)
      try simp only [Act.put, List.setIfInBounds_toArray, List.set_cons_zero, List.set_cons_succ]
      refine takeH 3 (fun _ _ _ _ _ h => h) (by kernel_rfl) hHeld rfl (by kernel_rfl) (by rfl) (v := ?_) ?_ ?_
      rotate_left
      ((intro wz hz; (try dsimp only at hz); go_simp) <;> with_reducible rfl)
      try simp only [Act.put, List.setIfInBounds_toArray, List.set_cons_zero, List.set_cons_succ]
      refine takeH 4 (fun _ _ _ _ _ h => h) (by kernel_rfl) hHeld rfl (by kernel_rfl) (by rfl) (v := ?_) ?_ ?_
      rotate_left
      ((intro wz hz; (try dsimp only at hz); go_simp) <;> with_reducible rfl)
      try simp only [Act.put, List.setIfInBounds_toArray, List.set_cons_zero, List.set_cons_succ]
      refine takeH 5 (fun _ _ _ _ _ h => h) (by kernel_rfl) hHeld rfl (by kernel_rfl) (by rfl) (v := ?_) ?_ ?_
      rotate_left
      ((intro wz hz; (try dsimp only at hz); go_simp) <;> with_reducible rfl)
      try simp only [Act.put, List.setIfInBounds_toArray, List.set_cons_zero, List.set_cons_succ]
      refine takeH 6 (fun _ _ _ _ _ h => h) (by kernel_rfl) hHeld rfl (by kernel_rfl) (by rfl) (v := ?_) ?_ ?_
      rotate_left
      ((intro wz hz; (try dsimp only at hz); go_simp) <;> with_reducible rfl)
      try simp only [Act.put, List.setIfInBounds_toArray, List.set_cons_zero, List.set_cons_succ]
      refine takeH 7 (fun _ _ _ _ _ h => h) (by kernel_rfl) hHeld rfl (by kernel_rfl) (by rfl) (v := ?_) ?_ ?_
      rotate_left
      ((intro wz hz; (try dsimp only at hz); go_simp) <;> with_reducible rfl)
      try simp only [Act.put, List.setIfInBounds_toArray, List.set_cons_zero, List.set_cons_succ]
      refine takeH 8 (fun _ _ _ _ _ h => h) (by kernel_rfl) hHeld rfl (by kernel_rfl) (by rfl) (v := ?_) ?_ ?_
      rotate_left
      ((intro wz hz; (try dsimp only at hz); go_simp) <;> with_reducible rfl)
      try simp only [Act.put, List.setIfInBounds_toArray, List.set_cons_zero, List.set_cons_succ]
      refine takeH 9 (fun _ _ _ _ _ h => h) (by kernel_rfl) hHeld rfl (by kernel_rfl) (by rfl) (v := ?_) ?_ ?_
      rotate_left
      ((intro wz hz; (try dsimp only at hz); go_simp) <;> with_reducible rfl)
      try simp only [Act.put, List.setIfInBounds_toArray, List.set_cons_zero, List.set_cons_succ]
      refine takeH 10 (fun _ _ _ _ _ h => h) (by kernel_rfl) hHeld rfl (by kernel_rfl) (by rfl) (v := ?_) ?_ ?_
      rotate_left
      ((intro wz hz; (try dsimp only at hz); go_simp) <;> with_reducible rfl)
      try simp only [Act.put, List.setIfInBounds_toArray, List.set_cons_zero, List.set_cons_succ]
      refine takeH 11 (fun _ _ _ _ _ h => h) (by kernel_rfl) hHeld rfl (by kernel_rfl) (by rfl) (v := ?_) ?_ ?_
      rotate_left
      ((intro wz hz; (try dsimp only at hz); go_simp) <;> with_reducible rfl)
      try simp only [Act.put, List.setIfInBounds_toArray, List.set_cons_zero, List.set_cons_succ]
      refine takeH 12 (fun _ _ _ _ _ h => h) (by kernel_rfl) hHeld rfl (by kernel_rfl) (by rfl) (v := ?_) ?_ ?_
      rotate_left
      ((intro wz hz; (try dsimp only at hz); go_simp) <;> with_reducible rfl)
      try simp only [Act.put, List.setIfInBounds_toArray, List.set_cons_zero, List.set_cons_succ]
      refine takeH 13 (fun _ _ _ _ _ h => h) (by kernel_rfl) hHeld rfl (by kernel_rfl) (by rfl) (v := ?_) ?_ ?_
      rotate_left
      ((intro wz hz; (try dsimp only at hz); go_simp) <;> with_reducible rfl)
      try simp only [Act.put, List.setIfInBounds_toArray, List.set_cons_zero, List.set_cons_succ]
      refine takeH 14 (fun _ _ _ _ _ h => h) (by kernel_rfl) hHeld rfl (by kernel_rfl) (by rfl) (v := ?_) ?_ ?_
      rotate_left
      ((intro wz hz; (try dsimp only at hz); go_simp) <;> with_reducible rfl)
      try simp only [Act.put, List.setIfInBounds_toArray, List.set_cons_zero, List.set_cons_succ]
      refine takeH 17 (fun _ _ _ _ _ h => h) (by kernel_rfl) hHeld rfl (by kernel_rfl) (by rfl) (v := ?_) ?_ ?_
      rotate_left
      ((intro wz hz; (try dsimp only at hz); go_simp) <;> with_reducible rfl)
      try simp only [Act.put, List.setIfInBounds_toArray, List.set_cons_zero, List.set_cons_succ]
      refine takeH 18 (fun _ _ _ _ _ h => h) (by kernel_rfl) hHeld rfl (by kernel_rfl) (by rfl) (v := ?_) ?_ ?_
      rotate_left
      ((intro wz hz; (try dsimp only at hz); go_simp) <;> with_reducible rfl)
      try simp only [Act.put, List.setIfInBounds_toArray, List.set_cons_zero, List.set_cons_succ]
      refine takeH 19 (fun _ _ _ _ _ h => h) (by kernel_rfl) hHeld rfl (by kernel_rfl) (by rfl) (v := ?_) ?_ ?_
      rotate_left
      ((intro wz hz; (try dsimp only at hz); go_simp) <;> with_reducible rfl)
      try simp only [Act.put, List.setIfInBounds_toArray, List.set_cons_zero, List.set_cons_succ]
      refine takeH 20 (fun _ _ _ _ _ h => h) (by kernel_rfl) hHeld rfl (by kernel_rfl) (by rfl) (v := ?_) ?_ ?_
      rotate_left
      ((intro wz hz; (try dsimp only at hz); go_simp) <;> with_reducible rfl)
      try simp only [Act.put, List.setIfInBounds_toArray, List.set_cons_zero, List.set_cons_succ]
      refine takeH 21 (fun _ _ _ _ _ h => h) (by kernel_rfl) hHeld rfl (by kernel_rfl) (by rfl) (v := ?_) ?_ ?_
      rotate_left
      ((intro wz hz; (try dsimp only at hz); go_simp) <;> with_reducible rfl)
      try simp only [Act.put, List.setIfInBounds_toArray, List.set_cons_zero, List.set_cons_succ]
      refine stepH 15 (by kernel_rfl) rfl (by rfl) (fun K hK => ?_)
      go_simp
      refine (cR.out _ hHeld.2.2.2.2.2 hHeld.2.2.2.1).mono ?_
      rintro e w6 ⟨g7, rfl, hR6, hg6, hb6⟩
      have hcv := conv8 (cap := 16) (n := 16) hR6.bl hRl.out
      refine hK.out _ _ ?_ (fun hHeld => ?_)
      · exact ⟨conv8 (tailBL (hHeld.2.2.2.1.below hb6) hS2l.out hRd.out) hRl.out, own_conv (hHeld.2.2.2.2.1.below hb6), (S3.out.next (bThen hHeld.2.2.2.2.2 hb6 hHeld.2.2.2.2.2.size)).conv x3.len, (hHeld.2.2.2.1.below hb6), (hHeld.2.2.2.2.1.below hb6), (bThen hHeld.2.2.2.2.2 hb6 hHeld.2.2.2.2.2.size)⟩
      clear hK K
      try simp only [Act.put, List.setIfInBounds_toArray, List.set_cons_zero, List.set_cons_succ]
      refine stepH 16 (by kernel_rfl) rfl (by rfl) (fun K hK => ?_)
      go_simp
      refine hK.out _ _ ?_ (fun hHeld => ?_)
      · exact hHeld
      clear hK K
      try simp only [Act.put, List.setIfInBounds_toArray, List.set_cons_zero, List.set_cons_succ]
      refine takeH 22 (fun _ _ _ _ _ h => h) (by kernel_rfl) hHeld rfl (by kernel_rfl) (by rfl) (v := ?_) ?_ ?_
      rotate_left
      ((intro wz hz; (try dsimp only at hz); go_simp) <;> with_reducible rfl)
      try simp only [Act.put, List.setIfInBounds_toArray, List.set_cons_zero, List.set_cons_succ]
      refine takeH 23 (fun _ _ _ _ _ h => h) (by kernel_rfl) hHeld rfl (by kernel_rfl) (by rfl) (v := ?_) ?_ ?_
      rotate_left
      ((intro wz hz; (try dsimp only at hz); go_simp) <;> with_reducible rfl)
      try simp only [Act.put, List.setIfInBounds_toArray, List.set_cons_zero, List.set_cons_succ]
      refine takeH 24 (fun _ _ _ _ _ h => h) (by kernel_rfl) hHeld rfl (by kernel_rfl) (by rfl) (v := ?_) ?_ ?_
      rotate_left
      ((intro wz hz; (try dsimp only at hz); go_simp) <;> with_reducible rfl)
      try simp only [Act.put, List.setIfInBounds_toArray, List.set_cons_zero, List.set_cons_succ]
      refine takeH 25 (fun _ _ _ _ _ h => h) (by kernel_rfl) hHeld rfl (by kernel_rfl) (by rfl) (v := ?_) ?_ ?_
      rotate_left
      ((intro wz hz; (try dsimp only at hz); go_simp) <;> with_reducible rfl)
      try simp only [Act.put, List.setIfInBounds_toArray, List.set_cons_zero, List.set_cons_succ]
      refine takeH 26 (fun _ _ _ _ _ h => h) (by kernel_rfl) hHeld rfl (by kernel_rfl) (by rfl) (v := ?_) ?_ ?_
      rotate_left
      ((intro wz hz; (try dsimp only at hz); go_simp) <;> with_reducible rfl)
      try simp only [Act.put, List.setIfInBounds_toArray, List.set_cons_zero, List.set_cons_succ]
      refine takeH 27 (fun _ _ _ _ _ h => h) (by kernel_rfl) hHeld rfl (by kernel_rfl) (by rfl) (v := ?_) ?_ ?_
      rotate_left
      ((intro wz hz; (try dsimp only at hz); go_simp) <;> with_reducible rfl)
      try simp only [Act.put, List.setIfInBounds_toArray, List.set_cons_zero, List.set_cons_succ]
      refine takeH 28 (fun _ _ _ _ _ h => h) (by kernel_rfl) hHeld rfl (by kernel_rfl) (by rfl) (v := ?_) ?_ ?_
      rotate_left
      ((intro wz hz; (try dsimp only at hz); go_simp) <;> with_reducible rfl)
      try simp only [Act.put, List.setIfInBounds_toArray, List.set_cons_zero, List.set_cons_succ]
      refine takeH 29 (fun _ _ _ _ _ h => h) (by kernel_rfl) hHeld rfl (by kernel_rfl) (by rfl) (v := ?_) ?_ ?_
      rotate_left
      ((intro wz hz; (try dsimp only at hz); go_simp) <;> with_reducible rfl)
      try simp only [Act.put, List.setIfInBounds_toArray, List.set_cons_zero, List.set_cons_succ]
      refine takeH 30 (fun _ _ _ _ _ h => h) (by kernel_rfl) hHeld rfl (by kernel_rfl) (by rfl) (v := ?_) ?_ ?_
      rotate_left
      ((intro wz hz; (try dsimp only at hz); go_simp) <;> with_reducible rfl)
      try simp only [Act.put, List.setIfInBounds_toArray, List.set_cons_zero, List.set_cons_succ]
      refine takeH 31 (fun _ _ _ _ _ h => h) (by kernel_rfl) hHeld rfl (by kernel_rfl) (by rfl) (v := ?_) ?_ ?_
      rotate_left
      ((intro wz hz; (try dsimp only at hz); go_simp) <;> with_reducible rfl)
      try simp only [Act.put, List.setIfInBounds_toArray, List.set_cons_zero, List.set_cons_succ]
      refine wpAnyH_done (by kernel_rfl) (NoPanic.normal ?_) _
      go_wp2
      go_ret
      exact ⟨rfl, hHeld.2.2.2.2.2⟩
    · have hE := fun W => eqErrC W 6 6
      replace hNe := Lib.hid hNe
      clear hb5 cO2
      go_wp2_with fail
      go_ret
      exact ⟨rfl, B5.out⟩
  · have cF := Lib.hid (fun W => lFitsN a0 a1 l0 l1 k0 k1 hk W)
    replace hk := Lib.hid hk
    go_wp2_with fail
    refine (cF.out _).mono ?_
    rintro e w2' ⟨rfl, rfl⟩
    go_wp2_with fail
    go_ret
    exact ⟨rfl, B1.out⟩

end Go.Proofs.Ytallfmiikjmgaaa
