import Derived.Test.YtiffendfojhapaaDoorZWrsum
import Derived.Test.YtiffendfojhapaaDoorZWlong
import Derived.Test.YtiffendfojhapaaDoorZLstays5
import Derived.Deep.CutBlock
import Derived.Deep.DeepCutAuto
set_option linter.unusedVariables false
set_option linter.unusedSimpArgs false
/- The walks of the laws BlakeSums and BlakeNumbers. -/
namespace Go.Proofs.YtiffendfojhapaaDoor
open Go.RowKit

/-- What is left of an argument that was cut. -/
def ArgI (w : World) (v : Value) (cap M : Nat) : Prop := ∃ ao len L, v = .slice ao len cap ∧ B8 len L ∧ len ≤ M ∧ SlI w.heap.size w ao cap L
theorem sl_of {w : World} {ao : Option Addr} {len cap : Nat} {L : List Nat} (H : B8 len L) (hl : len ≤ cap) (hc : cap ≤ 9223372036854775807) (hn : ao = none → len = 0 ∧ cap = 0) (hb : 0 < len → ∃ b o, ao = some ⟨b, o, none⟩ ∧ BL w b o L) : SlI w.heap.size w ao cap L :=
  ⟨by rw [H.len]; exact hl, hc, (fun h => by rw [H.len]; exact hn h), fun h => by
    rw [H.len] at h
    obtain ⟨b, o, h1, h2⟩ := hb h
    exact ⟨b, o, h1, h2.lt (by rw [H.len]; exact h), h2⟩⟩
theorem B8.cut {len : Nat} {L : List Nat} (H : B8 len L) {k : Nat} (h : k ≤ len) : B8 k (L.take k) := ⟨by rw [List.length_take, H.len]; omega, fun i => by
  rw [List.getD_eq_getElem?_getD, List.getElem?_take]
  split
  · rw [← List.getD_eq_getElem?_getD]; exact H.lt i
  · decide⟩
theorem sl_cut {base : Nat} {w : World} {ao : Option Addr} {cap : Nat} {L : List Nat} (h : SlI base w ao cap L) {k : Nat} (hk : k ≤ L.length) : SlI base w ao cap (L.take k) :=
  ⟨by rw [List.length_take]; have := h.le; omega, h.cap, (fun e => by have := h.no e; rw [List.length_take]; omega), fun h0 => by
    rw [List.length_take] at h0
    obtain ⟨b, o, h1, h2, h3⟩ := h.bl (by omega)
    refine ⟨b, o, h1, h2, fun i hi => ?_⟩
    rw [List.length_take] at hi
    rw [h3 i (by omega), List.getD_eq_getElem?_getD, List.getD_eq_getElem?_getD, List.getElem?_take, if_pos (by omega)]⟩
theorem sl_r5 {w W : World} {ao : Option Addr} {cap : Nat} {L : List Nat} (h : SlI w.heap.size w ao cap L) (hw : Below w.heap.size w W) {len : Nat} (hl : L.length = len) : (ao = none → len = 0 ∧ cap = 0) ∧ (0 < len → ∃ b o, ao = some ⟨b, o, none⟩ ∧ BL W b o L) := by
  subst hl
  exact ⟨h.no, fun h0 => by
    obtain ⟨b, o, h1, h2, h3⟩ := h.bl h0
    exact ⟨b, o, h1, h3.below hw h2⟩⟩

set_option maxRecDepth 4000 in
set_option maxHeartbeats 2000000 in
theorem walkSums (w : World) (hG : RowsAt w) (s : ByteArray) (hs : s.size ≤ maxLen) (ao : Option Addr) (len cap : Nat) (L : List Nat) (H : B8 len L) (hl : len ≤ cap) (hc : cap ≤ 9223372036854775807) (hn : ao = none → len = 0 ∧ cap = 0) (hb : 0 < len → ∃ b o, ao = some ⟨b, o, none⟩ ∧ BL w b o L) :
    Calls Tryd.prog 3 #[.string s, .slice ao len cap] w fun e w' => e = .returned (.bool true) ∧ Below w.heap.size w w' := by
  have hU := Lib.hid (up5 w hG)
  have hS := Lib.hid (sl_of H hl hc hn hb)
  have hG' := Lib.hid hG
  replace H := Lib.hid H
  have hlc : (len : Int) ≤ (cap : Int) := by omega
  have hcm : (cap : Int) ≤ 9223372036854775807 := by omega
  have hsm : (s.size : Int) ≤ 9223372036854775807 := by unfold maxLen at hs; omega
  clear hn hb hG
  go_enter Tryd.func3, Tryd.ntmps3
  go_wp2_with fail
  refine hU.out.mono ?_
  rintro e w1 ⟨rfl, hb1⟩
  have B1 := Lib.hid hb1
  clear hb1
  go_upto_if 11 with fail
  go_cut [1] (fun v wc => wc = w1 ∧ Hid (ArgI w v cap 20000))
  case first =>
    by_cases h2 : 20000 < len
    · have h2' : (20000 : Int) < (len : Int) := by omega
      have h3 : (20000 : Int) ≤ (cap : Int) := by omega
      go_wp2_with fail
      go_meet
      exact ⟨rfl, Lib.hid ⟨_, 20000, _, by first | rfl | simp, H.out.cut (by omega), Nat.le_refl _, sl_cut hS.out (by rw [H.out.len]; omega)⟩⟩
    · have h2' : (len : Int) ≤ 20000 := by omega
      go_wp2_with fail
      go_meet
      exact ⟨rfl, Lib.hid ⟨_, _, _, rfl, H.out, by omega, hS.out⟩⟩
  case' rest =>
    rename World => wc
    obtain ⟨rfl, hA⟩ := hcut
    clear hlc H hS hl
    obtain ⟨ao, len, L, rfl, H0, hlen, hS0⟩ := hA.out
    have H := Lib.hid H0
    have hS := Lib.hid hS0
    have hll : (len : Int) ≤ 20000 := by omega
    clear hA H0 hS0
  by_cases h8 : 8 < s.size
  · have h8' : (8 : Int) < (s.size : Int) := by omega
    go_wp2_with fail
    refine (bSumLong s h8 _ _ _ _).mono ?_
    rintro e w2 ⟨rfl, rfl⟩
    have hE := fun W => eqErrC W 5 5
    go_wp2_with fail
    go_ret
    exact ⟨rfl, B1.out⟩
  · have h8' : (s.size : Int) ≤ 8 := by omega
    have h8n : s.size ≤ 8 := by omega
    have cS := Lib.hid (fun W (hw : Below w.heap.size w W) => bSum2 s h8n ao len cap L H.out W (hS.out.at hw) (hG'.out.below hw))
    have cR := Lib.hid (fun W (hw : Below w.heap.size w W) => r5Sum s h8n ao len cap L H.out (by omega) W (sl_r5 hS.out hw H.out.len).1 (sl_r5 hS.out hw H.out.len).2)
    have hD : Hid ((Obol.sumL (strL s) L).length = 32) := Lib.hid (sumL_len _ _ (strL_lt s))
    generalize Obol.sumL (strL s) L = D at cS cR hD
    go_wp2_with fail
    refine (cS.out _ B1.out).mono ?_
    rintro e w2 ⟨g, cap2, rfl, hg, hO, hb2⟩
    have B2 := Lib.hid (bThen B1.out hb2 B1.out.size)
    have hgl := own_lt hO
    have bl := Lib.hid (own_blz hO hD.out)
    clear hO hb2 B1 cS
    go_wp2_with fail
    refine wp_region_noPanic ?_
    refine wp_region_held_drew (S := fun wq => (convert 22 9 (.slice (some ⟨g, 0, none⟩) 32 cap2)).run Tryd.prog wq = .ok (.string (strB D)) wq ∧ BL wq g 0 D ∧ g < wq.heap.size ∧ Below w.heap.size w wq) (by kernel_rfl) ?_ (fun hHeld => ?_)
    · exact ⟨conv8 (fun i hi => bl.out i hi) hD.out, fun i hi => bl.out i hi, hgl, bDrew B2.out⟩
    refine takeH 0 (fun _ _ _ _ _ h => h) (by kernel_rfl) hHeld rfl (by kernel_rfl) (by rfl) (v := ?_) ?_ ?_
    rotate_left
    ((intro wz hz; (try dsimp only at hz); go_simp) <;> with_reducible rfl)
    try simp only [Act.put, List.setIfInBounds_toArray, List.set_cons_zero, List.set_cons_succ]
    refine takeH 1 (fun _ _ _ _ _ h => h) (by kernel_rfl) hHeld rfl (by kernel_rfl) (by rfl) (v := ?_) ?_ ?_
    rotate_left
    ((intro wz hz; (try dsimp only at hz); go_simp) <;> with_reducible rfl)
    try simp only [Act.put, List.setIfInBounds_toArray, List.set_cons_zero, List.set_cons_succ]
    refine takeH 2 (fun _ _ _ _ _ h => h) (by kernel_rfl) hHeld rfl (by kernel_rfl) (by rfl) (v := ?_) ?_ ?_
    rotate_left
    ((intro wz hz; (try dsimp only at hz); go_simp) <;> with_reducible rfl)
    try simp only [Act.put, List.setIfInBounds_toArray, List.set_cons_zero, List.set_cons_succ]
    refine takeH 3 (fun _ _ _ _ _ h => h) (by kernel_rfl) hHeld rfl (by kernel_rfl) (by rfl) (v := ?_) ?_ ?_
    rotate_left
    ((intro wz hz; (try dsimp only at hz); go_simp) <;> with_reducible rfl)
    try simp only [Act.put, List.setIfInBounds_toArray, List.set_cons_zero, List.set_cons_succ]
    refine takeH 4 (fun _ _ _ _ _ h => h) (by kernel_rfl) hHeld rfl (by kernel_rfl) (by rfl) (v := ?_) ?_ ?_
    rotate_left
    ((intro wz hz; (try dsimp only at hz); go_simp) <;> with_reducible rfl)
    try simp only [Act.put, List.setIfInBounds_toArray, List.set_cons_zero, List.set_cons_succ]
    refine takeH 5 (fun _ _ _ _ _ h => h) (by kernel_rfl) hHeld rfl (by kernel_rfl) (by rfl) (v := ?_) ?_ ?_
    rotate_left
    ((intro wz hz; (try dsimp only at hz); go_simp) <;> with_reducible rfl)
    try simp only [Act.put, List.setIfInBounds_toArray, List.set_cons_zero, List.set_cons_succ]
    refine takeH 6 (fun _ _ _ _ _ h => h) (by kernel_rfl) hHeld rfl (by kernel_rfl) (by rfl) (v := ?_) ?_ ?_
    rotate_left
    ((intro wz hz; (try dsimp only at hz); go_simp) <;> with_reducible rfl)
    try simp only [Act.put, List.setIfInBounds_toArray, List.set_cons_zero, List.set_cons_succ]
    refine takeH 7 (fun _ _ _ _ _ h => h) (by kernel_rfl) hHeld rfl (by kernel_rfl) (by rfl) (v := ?_) ?_ ?_
    rotate_left
    ((intro wz hz; (try dsimp only at hz); go_simp) <;> with_reducible rfl)
    try simp only [Act.put, List.setIfInBounds_toArray, List.set_cons_zero, List.set_cons_succ]
    refine takeH 8 (fun _ _ _ _ _ h => h) (by kernel_rfl) hHeld rfl (by kernel_rfl) (by rfl) (v := ?_) ?_ ?_
    rotate_left
    ((intro wz hz; (try dsimp only at hz); go_simp) <;> with_reducible rfl)
    try simp only [Act.put, List.setIfInBounds_toArray, List.set_cons_zero, List.set_cons_succ]
    refine takeH 9 (fun _ _ _ _ _ h => h) (by kernel_rfl) hHeld rfl (by kernel_rfl) (by rfl) (v := ?_) ?_ ?_
    rotate_left
    ((intro wz hz; (try dsimp only at hz); go_simp) <;> with_reducible rfl)
    try simp only [Act.put, List.setIfInBounds_toArray, List.set_cons_zero, List.set_cons_succ]
    refine stepH 10 (by kernel_rfl) rfl (by rfl) (fun K hK => ?_)
    go_simp
    refine (cR.out _ hHeld.2.2.2).mono ?_
    rintro e w3 ⟨g3, cap3, rfl, hO3, hb3⟩
    have hcv := conv8 (cap := cap3) (n := 32) (own_blz hO3 hD.out) hD.out
    refine hK.out _ _ ?_ (fun hHeld => ?_)
    · exact ⟨conv8 (hHeld.2.1.below hb3 hHeld.2.2.1) hD.out, hHeld.2.1.below hb3 hHeld.2.2.1, Nat.lt_of_lt_of_le hHeld.2.2.1 hb3.size, bThen hHeld.2.2.2 hb3 hHeld.2.2.2.size⟩
    clear hK K
    try simp only [Act.put, List.setIfInBounds_toArray, List.set_cons_zero, List.set_cons_succ]
    refine stepH 11 (by kernel_rfl) rfl (by rfl) (fun K hK => ?_)
    go_simp
    refine hK.out _ _ ?_ (fun hHeld => ?_)
    · exact hHeld
    clear hK K
    try simp only [Act.put, List.setIfInBounds_toArray, List.set_cons_zero, List.set_cons_succ]
    refine takeH 12 (fun _ _ _ _ _ h => h) (by kernel_rfl) hHeld rfl (by kernel_rfl) (by rfl) (v := ?_) ?_ ?_
    rotate_left
    ((intro wz hz; (try dsimp only at hz); go_simp) <;> with_reducible rfl)
    try simp only [Act.put, List.setIfInBounds_toArray, List.set_cons_zero, List.set_cons_succ]
    refine takeH 13 (fun _ _ _ _ _ h => h) (by kernel_rfl) hHeld rfl (by kernel_rfl) (by rfl) (v := ?_) ?_ ?_
    rotate_left
    ((intro wz hz; (try dsimp only at hz); go_simp) <;> with_reducible rfl)
    try simp only [Act.put, List.setIfInBounds_toArray, List.set_cons_zero, List.set_cons_succ]
    refine takeH 14 (fun _ _ _ _ _ h => h) (by kernel_rfl) hHeld rfl (by kernel_rfl) (by rfl) (v := ?_) ?_ ?_
    rotate_left
    ((intro wz hz; (try dsimp only at hz); go_simp) <;> with_reducible rfl)
    try simp only [Act.put, List.setIfInBounds_toArray, List.set_cons_zero, List.set_cons_succ]
    refine wpAnyH_done (by kernel_rfl) (NoPanic.normal ?_) _
    go_wp2
    go_ret
    exact ⟨rfl, hHeld.2.2.2⟩

set_option maxRecDepth 4000 in
set_option maxHeartbeats 2000000 in
theorem walkNumbers (w : World) (hG : RowsAt w) (s : ByteArray) (hs : s.size ≤ maxLen) (ao : Option Addr) (len cap : Nat) (L : List Nat) (H : B8 len L) (hl : len ≤ cap) (hc : cap ≤ 9223372036854775807) (hn : ao = none → len = 0 ∧ cap = 0) (hb : 0 < len → ∃ b o, ao = some ⟨b, o, none⟩ ∧ BL w b o L) (m : Int) (m0 : 0 ≤ m) (m1 : m ≤ 18446744073709551615) :
    Calls Tryd.prog 4 #[.string s, .slice ao len cap, .int .u64 m] w fun e w' => e = .returned (.bool true) ∧ Below w.heap.size w w' := by
  have hU := Lib.hid (up5 w hG)
  have hS := Lib.hid (sl_of H hl hc hn hb)
  have hG' := Lib.hid hG
  replace H := Lib.hid H
  have hlc : (len : Int) ≤ (cap : Int) := by omega
  have hcm : (cap : Int) ≤ 9223372036854775807 := by omega
  have hsm : (s.size : Int) ≤ 9223372036854775807 := by unfold maxLen at hs; omega
  clear hn hb hG
  go_enter Tryd.func4, Tryd.ntmps4
  go_wp2_with fail
  refine hU.out.mono ?_
  rintro e w1 ⟨rfl, hb1⟩
  have B1 := Lib.hid hb1
  clear hb1
  go_upto_if 13 with fail
  go_cut [1] (fun v wc => wc = w1 ∧ Hid (ArgI w v cap 20000))
  case first =>
    by_cases h2 : 20000 < len
    · have h2' : (20000 : Int) < (len : Int) := by omega
      have h3 : (20000 : Int) ≤ (cap : Int) := by omega
      go_wp2_with fail
      go_meet
      exact ⟨rfl, Lib.hid ⟨_, 20000, _, by first | rfl | simp, H.out.cut (by omega), Nat.le_refl _, sl_cut hS.out (by rw [H.out.len]; omega)⟩⟩
    · have h2' : (len : Int) ≤ 20000 := by omega
      go_wp2_with fail
      go_meet
      exact ⟨rfl, Lib.hid ⟨_, _, _, rfl, H.out, by omega, hS.out⟩⟩
  case' rest =>
    rename World => wc
    obtain ⟨rfl, hA⟩ := hcut
    clear hlc H hS hl
    obtain ⟨ao, len, L, rfl, H0, hlen, hS0⟩ := hA.out
    have H := Lib.hid H0
    have hS := Lib.hid hS0
    have hll : (len : Int) ≤ 20000 := by omega
    clear hA H0 hS0
  by_cases h8 : 8 < s.size
  · have h8' : (8 : Int) < (s.size : Int) := by omega
    go_wp2_with fail
    refine (bNumberLong s h8 _ _ _ _ _).mono ?_
    rintro e w2 ⟨rfl, rfl⟩
    have hE := fun W => eqErrC W 5 5
    go_wp2_with fail
    go_ret
    exact ⟨rfl, B1.out⟩
  · have h8' : (s.size : Int) ≤ 8 := by omega
    have h8n : s.size ≤ 8 := by omega
    by_cases hm : m = 0
    · subst hm
      have cN := Lib.hid (fun W (hw : Below w.heap.size w W) => bNumberZero s h8n ao len cap L H.out W (hS.out.at hw) (hG'.out.below hw))
      go_wp2_with fail
      refine (cN.out _ B1.out).mono ?_
      rintro e w2 ⟨rfl, hb2⟩
      have B2 := Lib.hid (bThen B1.out hb2 B1.out.size)
      have hE := fun W => eqErrC W 1 1
      clear hb2 B1 cN
      go_wp2_with fail
      go_ret
      exact ⟨rfl, B2.out⟩
    · have hm0 : (m == 0) = false := beq_eq_false_iff_ne.2 hm
      have cN := Lib.hid (fun W (hw : Below w.heap.size w W) => bNumber s h8n ao len cap L H.out m (by omega) m1 W (hS.out.at hw) (hG'.out.below hw))
      have cR := Lib.hid (fun W (hw : Below w.heap.size w W) => r5Sum s h8n ao len cap L H.out (by omega) W (sl_r5 hS.out hw H.out.len).1 (sl_r5 hS.out hw H.out.len).2)
      have hD : Hid (B8 32 (Obol.sumL (strL s) L)) := Lib.hid (sumL_b8 _ _ (strL_lt s))
      generalize Obol.sumL (strL s) L = D at cN cR hD
      obtain ⟨x, hx⟩ : ∃ z : Int, ((Obol.numL D : Nat) : Int) = z := ⟨_, rfl⟩
      have x0 : 0 ≤ x := by omega
      have hxN := Lib.hid hx
      rw [hx] at cN
      have ht : x.tmod m = x % m := Int.tmod_eq_emod_of_nonneg x0
      replace hm := Lib.hid hm
      clear hx
      go_wp2_with fail
      refine (cN.out _ B1.out).mono ?_
      rintro e w2 ⟨rfl, hb2⟩
      have B2 := Lib.hid (bThen B1.out hb2 B1.out.size)
      clear hb2 B1 cN
      go_wp2_with fail
      refine (cR.out _ B2.out).mono ?_
      rintro e w3 ⟨g3, cap3, rfl, hO3, hb3⟩
      have B3 := Lib.hid (bThen B2.out hb3 B2.out.size)
      have cM := r5Number g3 0 32 cap3 D 32 hD.out (by decide) rfl (by decide) w3 (own_blz hO3 hD.out.len)
      rw [hxN.out] at cM
      replace cM := Lib.hid cM
      clear hb3 hO3 B2 cR
      go_wp2_with fail
      refine cM.out.mono ?_
      rintro e w4 ⟨rfl, rfl⟩
      go_wp2_with fail
      go_ret
      exact ⟨rfl, B3.out⟩

end Go.Proofs.YtiffendfojhapaaDoor
