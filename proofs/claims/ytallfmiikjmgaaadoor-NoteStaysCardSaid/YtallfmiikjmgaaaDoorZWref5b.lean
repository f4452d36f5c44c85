import Derived.Test.YtallfmiikjmgaaaDoorZWref5
set_option linter.unusedVariables false
set_option linter.unusedSimpArgs false
/- Walks: the reference of layer 5: the bytes of words; the rows. -/
namespace Go.Proofs.YtallfmiikjmgaaaDoor
open Go.RowKit

/-- The cells of a row. -/
def IL (w : World) (b : Nat) (i : Nat) : Prop := ∀ k, k < 16 → w.cell? ⟨b, k, none⟩ = some (.int .i64 ((Obol.rowAt i k : Nat) : Int))
theorem IL.below {B : Nat} {w w' : World} {b i : Nat} (h : IL w b i) (hb : Below B w w') (hB : b < B) : IL w' b i := fun k hk => (hb.cell (p := ⟨b, k, none⟩) hB).trans (h k hk)
theorem IL.of {w : World} {b i : Nat} {cs : Array Value} {t : TypeId} (h : Row w b cs t) (hc : cs = ((Obol.rowsL.getD i []).map fun (n : Nat) => Value.int .i64 (n : Int)).toArray) (hl : (Obol.rowsL.getD i []).length = 16) : IL w b i := fun k hk => by
  refine h.cell k ?_
  subst hc
  unfold Obol.rowAt
  rw [List.getElem?_toArray, List.getElem?_map, List.getElem?_eq_getElem (by omega), List.getD_eq_getElem?_getD (l := Obol.rowsL.getD i []), List.getElem?_eq_getElem (by omega)]
  rfl

set_option maxHeartbeats 4000000 in
theorem r5Row (i : Int) (i0 : 0 ≤ i) (i1 : i < 10) (w : World) :
    Calls Tryd.prog 95 #[.int .i64 i] w fun e w' => e = .returned (.slice (some ⟨w.heap.size, 0, none⟩) 16 16) ∧ IL w' w.heap.size i.toNat ∧ w.heap.size < w'.heap.size ∧ Below w.heap.size w w' := by
  have hi : i = 0 ∨ i = 1 ∨ i = 2 ∨ i = 3 ∨ i = 4 ∨ i = 5 ∨ i = 6 ∨ i = 7 ∨ i = 8 ∨ i = 9 := by omega
  rcases hi with rfl | rfl | rfl | rfl | rfl | rfl | rfl | rfl | rfl | rfl
  all_goals go_enter Tryd.func95, Tryd.ntmps95
  all_goals go_wp2
  all_goals go_ret
  all_goals refine ⟨rfl, IL.of (Row.new w _ _) rfl rfl, by simp, bAlloc (Below.refl _ _) _⟩

theorem wordsB_app (l m : List Nat) : Obol.wordsB (l ++ m) = Obol.wordsB l ++ Obol.wordsB m := by unfold Obol.wordsB; rw [List.flatMap_append]

set_option maxRecDepth 4000 in
set_option maxHeartbeats 1000000 in
theorem r5Bytes (b len cap : Nat) (L : List Nat) (H0 : Obol.W32 len L) (hl2 : len ≤ 4096) (w : World) (hb0 : b < w.heap.size) (hc0 : WL w b 0 L) :
    Calls Tryd.prog 73 #[.slice (some ⟨b, 0, none⟩) len cap] w fun e w' => ∃ v, e = .returned v ∧ OwnB w' w.heap.size v (Obol.wordsB L) ∧ Below w.heap.size w w' := by
  have H := Lib.hid H0
  have C := Lib.hid hc0
  have hl3 : (len : Int) ≤ 4096 := by omega
  have hlen := Lib.hid H0.len
  clear hc0 H0
  obtain ⟨ti, hti, htz, hts, htb⟩ := info_parts info8
  go_enter Tryd.func73, Tryd.ntmps73
  go_wp2
  go_loopw [3, 4] (fun q1 q2 wr => ∃ j : Nat, j ≤ len ∧ q2 = .int .i64 (j : Int) ∧ OwnB wr w.heap.size q1 (Obol.wordsB (L.take j)) ∧ Below w.heap.size w wr) (fun _ q2 _ => (len - intOf q2).toNat)
  case atStart => exact ⟨0, by omega, rfl, OwnB.nil _ _, Below.refl _ _⟩
  case round =>
    obtain ⟨j, hj9, rfl, hO0, hW0⟩ := hrel
    have hO := Lib.hid hO0
    have hW := Lib.hid hW0
    have hsz := hW0.size
    clear hO0 hW0
    obtain ⟨i, hi⟩ : ∃ i : Int, (j : Int) = i := ⟨_, rfl⟩
    rw [hi]
    have i0 : 0 ≤ i := by omega
    by_cases hj : j < len
    · have i3 : i < (len : Int) := by omega
      obtain ⟨x, ex, x0, x1⟩ := word_at H.out (i := i) (by omega) (by omega)
      have D : w.cell? ⟨b, i.toNat, none⟩ = some (.int .u32 x) := by
        have := C.out i.toNat (by rw [hlen.out]; omega)
        rwa [Nat.zero_add, ex] at this
      have d := wcell D hW.out hb0
      replace D := Lib.hid D
      have ex' : Hid (((L.getD j 0 : Nat) : Int) = x) := Lib.hid (by rw [← ex, show i.toNat = j by omega])
      clear ex
      have hlj : (Obol.wordsB (L.take j)).length = 4 * j := by rw [wordsB_len, List.length_take, hlen.out]; omega
      replace hlj := Lib.hid hlj
      go_wp2_with fail
      refine wp_region_noPanic ?_
      refine wp_region_held_drew (S := fun wq => wq.cell? ⟨b, i.toNat, none⟩ = some (.int .u32 x)) (by kernel_rfl) ?_ (fun hHeld => ?_)
      · exact d
      refine takeH 0 (fun _ _ _ _ _ h => h) (by kernel_rfl) hHeld rfl (by kernel_rfl) (by rfl) (v := ?_) ?_ ?_
      rotate_left
      ((intro wz hz; (try dsimp only at hz); go_simp) <;> with_reducible rfl)
      try simp only [Act.put, List.setIfInBounds_toArray, List.set_cons_zero, List.set_cons_succ]
      refine takeH 1 (fun _ _ _ _ _ h => h) (by kernel_rfl) hHeld rfl (by kernel_rfl) (by rfl) (v := ?_) ?_ ?_
      rotate_left
      ((intro wz hz; (try dsimp only at hz); go_simp) <;> with_reducible rfl)
      try simp only [Act.put, List.setIfInBounds_toArray, List.set_cons_zero, List.set_cons_succ]
      refine takeH 2 (fun _ _ _ _ _ h => h) (by kernel_rfl) hHeld rfl (by kernel_rfl) (by rfl) (v := ?_) ?_ ?_
      rotate_left
      ((intro wz hz; (try dsimp only at hz); go_simp) <;> with_reducible rfl)
      try simp only [Act.put, List.setIfInBounds_toArray, List.set_cons_zero, List.set_cons_succ]
      refine takeH 3 (fun _ _ _ _ _ h => h) (by kernel_rfl) hHeld rfl (by kernel_rfl) (by rfl) (v := ?_) ?_ ?_
      rotate_left
      ((intro wz hz; (try dsimp only at hz); go_simp) <;> with_reducible rfl)
      try simp only [Act.put, List.setIfInBounds_toArray, List.set_cons_zero, List.set_cons_succ]
      refine takeH 4 (fun _ _ _ _ _ h => h) (by kernel_rfl) hHeld rfl (by kernel_rfl) (by rfl) (v := ?_) ?_ ?_
      rotate_left
      ((intro wz hz; (try dsimp only at hz); go_simp) <;> with_reducible rfl)
      try simp only [Act.put, List.setIfInBounds_toArray, List.set_cons_zero, List.set_cons_succ]
      refine takeH 5 (fun _ _ _ _ _ h => h) (by kernel_rfl) hHeld rfl (by kernel_rfl) (by rfl) (v := ?_) ?_ ?_
      rotate_left
      ((intro wz hz; (try dsimp only at hz); go_simp) <;> with_reducible rfl)
      try simp only [Act.put, List.setIfInBounds_toArray, List.set_cons_zero, List.set_cons_succ]
      refine takeH 6 (fun _ _ _ _ _ h => h) (by kernel_rfl) hHeld rfl (by kernel_rfl) (by rfl) (v := ?_) ?_ ?_
      rotate_left
      ((intro wz hz; (try dsimp only at hz); go_simp) <;> with_reducible rfl)
      try simp only [Act.put, List.setIfInBounds_toArray, List.set_cons_zero, List.set_cons_succ]
      refine takeH 7 (fun _ _ _ _ _ h => h) (by kernel_rfl) hHeld rfl (by kernel_rfl) (by rfl) (v := ?_) ?_ ?_
      rotate_left
      ((intro wz hz; (try dsimp only at hz); go_simp) <;> with_reducible rfl)
      try simp only [Act.put, List.setIfInBounds_toArray, List.set_cons_zero, List.set_cons_succ]
      refine takeH 8 (fun _ _ _ _ _ h => h) (by kernel_rfl) hHeld rfl (by kernel_rfl) (by rfl) (v := ?_) ?_ ?_
      rotate_left
      ((intro wz hz; (try dsimp only at hz); go_simp) <;> with_reducible rfl)
      try simp only [Act.put, List.setIfInBounds_toArray, List.set_cons_zero, List.set_cons_succ]
      refine takeH 9 (fun _ _ _ _ _ h => h) (by kernel_rfl) hHeld rfl (by kernel_rfl) (by rfl) (v := ?_) ?_ ?_
      rotate_left
      ((intro wz hz; (try dsimp only at hz); go_simp) <;> with_reducible rfl)
      try simp only [Act.put, List.setIfInBounds_toArray, List.set_cons_zero, List.set_cons_succ]
      refine takeH 10 (fun _ _ _ _ _ h => h) (by kernel_rfl) hHeld rfl (by kernel_rfl) (by rfl) (v := ?_) ?_ ?_
      rotate_left
      ((intro wz hz; (try dsimp only at hz); go_simp) <;> with_reducible rfl)
      try simp only [Act.put, List.setIfInBounds_toArray, List.set_cons_zero, List.set_cons_succ]
      refine takeH 11 (fun _ _ _ _ _ h => h) (by kernel_rfl) hHeld rfl (by kernel_rfl) (by rfl) (v := ?_) ?_ ?_
      rotate_left
      ((intro wz hz; (try dsimp only at hz); go_simp) <;> with_reducible rfl)
      try simp only [Act.put, List.setIfInBounds_toArray, List.set_cons_zero, List.set_cons_succ]
      refine takeH 12 (fun _ _ _ _ _ h => h) (by kernel_rfl) hHeld rfl (by kernel_rfl) (by rfl) (v := ?_) ?_ ?_
      rotate_left
      ((intro wz hz; (try dsimp only at hz); go_simp) <;> with_reducible rfl)
      try simp only [Act.put, List.setIfInBounds_toArray, List.set_cons_zero, List.set_cons_succ]
      refine takeH 13 (fun _ _ _ _ _ h => h) (by kernel_rfl) hHeld rfl (by kernel_rfl) (by rfl) (v := ?_) ?_ ?_
      rotate_left
      ((intro wz hz; (try dsimp only at hz); go_simp) <;> with_reducible rfl)
      try simp only [Act.put, List.setIfInBounds_toArray, List.set_cons_zero, List.set_cons_succ]
      refine takeH 14 (fun _ _ _ _ _ h => h) (by kernel_rfl) hHeld rfl (by kernel_rfl) (by rfl) (v := ?_) ?_ ?_
      rotate_left
      ((intro wz hz; (try dsimp only at hz); go_simp) <;> with_reducible rfl)
      try simp only [Act.put, List.setIfInBounds_toArray, List.set_cons_zero, List.set_cons_succ]
      refine takeH 15 (fun _ _ _ _ _ h => h) (by kernel_rfl) hHeld rfl (by kernel_rfl) (by rfl) (v := ?_) ?_ ?_
      rotate_left
      ((intro wz hz; (try dsimp only at hz); go_simp) <;> with_reducible rfl)
      try simp only [Act.put, List.setIfInBounds_toArray, List.set_cons_zero, List.set_cons_succ]
      refine takeH 16 (fun _ _ _ _ _ h => h) (by kernel_rfl) hHeld rfl (by kernel_rfl) (by rfl) (v := ?_) ?_ ?_
      rotate_left
      ((intro wz hz; (try dsimp only at hz); go_simp) <;> with_reducible rfl)
      try simp only [Act.put, List.setIfInBounds_toArray, List.set_cons_zero, List.set_cons_succ]
      refine takeH 17 (fun _ _ _ _ _ h => h) (by kernel_rfl) hHeld rfl (by kernel_rfl) (by rfl) (v := ?_) ?_ ?_
      rotate_left
      ((intro wz hz; (try dsimp only at hz); go_simp) <;> with_reducible rfl)
      try simp only [Act.put, List.setIfInBounds_toArray, List.set_cons_zero, List.set_cons_succ]
      refine takeH 18 (fun _ _ _ _ _ h => h) (by kernel_rfl) hHeld rfl (by kernel_rfl) (by rfl) (v := ?_) ?_ ?_
      rotate_left
      ((intro wz hz; (try dsimp only at hz); go_simp) <;> with_reducible rfl)
      try simp only [Act.put, List.setIfInBounds_toArray, List.set_cons_zero, List.set_cons_succ]
      refine takeH 19 (fun _ _ _ _ _ h => h) (by kernel_rfl) hHeld rfl (by kernel_rfl) (by rfl) (v := ?_) ?_ ?_
      rotate_left
      ((intro wz hz; (try dsimp only at hz); go_simp) <;> with_reducible rfl)
      try simp only [Act.put, List.setIfInBounds_toArray, List.set_cons_zero, List.set_cons_succ]
      refine takeH 20 (fun _ _ _ _ _ h => h) (by kernel_rfl) hHeld rfl (by kernel_rfl) (by rfl) (v := ?_) ?_ ?_
      rotate_left
      ((intro wz hz; (try dsimp only at hz); go_simp) <;> with_reducible rfl)
      try simp only [Act.put, List.setIfInBounds_toArray, List.set_cons_zero, List.set_cons_succ]
      refine takeH 21 (fun _ _ _ _ _ h => h) (by kernel_rfl) hHeld rfl (by kernel_rfl) (by rfl) (v := ?_) ?_ ?_
      rotate_left
      ((intro wz hz; (try dsimp only at hz); go_simp) <;> with_reducible rfl)
      try simp only [Act.put, List.setIfInBounds_toArray, List.set_cons_zero, List.set_cons_succ]
      refine takeH 22 (fun _ _ _ _ _ h => h) (by kernel_rfl) hHeld rfl (by kernel_rfl) (by rfl) (v := ?_) ?_ ?_
      rotate_left
      ((intro wz hz; (try dsimp only at hz); go_simp) <;> with_reducible rfl)
      try simp only [Act.put, List.setIfInBounds_toArray, List.set_cons_zero, List.set_cons_succ]
      refine takeH 23 (fun _ _ _ _ _ h => h) (by kernel_rfl) hHeld rfl (by kernel_rfl) (by rfl) (v := ?_) ?_ ?_
      rotate_left
      ((intro wz hz; (try dsimp only at hz); go_simp) <;> with_reducible rfl)
      try simp only [Act.put, List.setIfInBounds_toArray, List.set_cons_zero, List.set_cons_succ]
      refine stepH 24 (by kernel_rfl) rfl (by rfl) (fun K hK => ?_)
      go_simp
      refine hK.out _ _ ?_ (fun hHeld => ?_)
      · exact wcell d (bAlloc (bDrew (Below.refl _ wr)) _) (Nat.lt_of_lt_of_le hb0 hsz)
      clear hK K
      try simp only [Act.put, List.setIfInBounds_toArray, List.set_cons_zero, List.set_cons_succ]
      refine stepH 25 (by kernel_rfl) rfl (by rfl) (fun K hK => ?_)
      (refine wp_append_own _ _ _ 42 rfl w.heap.size 5 ti (.int .u8 0) 1 1 Tryd.underlying42 hti htz hts htb rfl (by decide) _ _ _ rfl (hO.out.below (bAlloc (bDrew (Below.refl _ wr)) _)) ⟨wr.heap.size, 0, none⟩ 4 4 [.int .u8 (x % 256), .int .u8 (x / 256 % 256), .int .u8 (x / 65536 % 256), .int .u8 (x / 16777216)] ?c0 rfl ?c1 ?c2 ?c3 ?c4 ?c5 ?_)
      case c0 => rfl
      case c1 =>
        intro q u hq
        match q, hq with
        | 0, hq => simp at hq; subst hq; simp [Addr.add, IntKind.wrap_u8]
        | 1, hq => simp at hq; subst hq; simp [Addr.add, IntKind.wrap_u8]
        | 2, hq => simp at hq; subst hq; simp [Addr.add, IntKind.wrap_u8]
        | 3, hq => simp at hq; subst hq; simp [Addr.add, IntKind.wrap_u8]; omega
      case c2 =>
        intro u hu
        simp at hu
        rcases hu with rfl | rfl | rfl | rfl <;> rfl
      case c3 => rw [hlj.out]; unfold maxLen; omega
      case c4 => rw [hlj.out]; omega
      case c5 => simp; omega
      intro v' w1 hown' hgrow _
      have HO : Hid (OwnB w1 w.heap.size v' (Obol.wordsB (L.take (j + 1)))) := Lib.hid (by
        rw [wordsB_take (l := L) (i := j) (by rw [hlen.out]; exact hj)]
        refine OwnB.app (M := Obol.bytes4 (L.getD j 0)) hown' ?_
        have ex := ex'.out
        generalize L.getD j 0 = X at ex
        subst ex
        simp [U8, Obol.bytes4]
        omega)
      have HW : Hid (Below w.heap.size w w1) := Lib.hid ((bAlloc (bDrew hW.out) _).grown hgrow (by simp; omega) (fun q hq => (hO.out.lt q hq).1))
      refine hK.out _ _ ?_ (fun hHeld => ?_)
      · exact wcell D.out HW.out hb0
      clear hK K
      try simp only [Act.put, List.setIfInBounds_toArray, List.set_cons_zero, List.set_cons_succ]
      refine takeH 26 (fun _ _ _ _ _ h => h) (by kernel_rfl) hHeld rfl (by kernel_rfl) (by rfl) (v := ?_) ?_ ?_
      rotate_left
      ((intro wz hz; (try dsimp only at hz); go_simp) <;> with_reducible rfl)
      try simp only [Act.put, List.setIfInBounds_toArray, List.set_cons_zero, List.set_cons_succ]
      refine wpAnyH_done (by kernel_rfl) (NoPanic.normal ?_) _
      go_wp2
      go_roundw
      case rel => exact ⟨j + 1, by omega, by congr 1; omega, HO.out, HW.out⟩
      case measure => simp [intOf]; omega
    · obtain rfl : j = len := by omega
      have i3 : ¬ i < (j : Int) := by omega
      rw [List.take_of_length_le (by rw [hlen.out]; exact Nat.le_refl _)] at hO
      go_wp2_with fail
      go_ret
      exact ⟨_, rfl, hO.out, hW.out⟩

end Go.Proofs.YtallfmiikjmgaaaDoor
