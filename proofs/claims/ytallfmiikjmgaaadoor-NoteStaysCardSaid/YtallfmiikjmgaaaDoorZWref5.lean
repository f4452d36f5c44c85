import Derived.Test.YtallfmiikjmgaaaDoorZWnum
import Derived.Test.YtallfmiikjmgaaaDoorMB
set_option linter.unusedVariables false
set_option linter.unusedSimpArgs false
/- Walks: the reference of layer 5: the words of the beginning, words of bytes, the number. -/
namespace Obol
def wordsOf (L : List Nat) (q : Nat) : List Nat := (List.range q).map fun i => wordAt L (4 * i)
theorem wordsOf_succ (L : List Nat) (q : Nat) : wordsOf L (q + 1) = wordsOf L q ++ [wordAt L (4 * q)] := by
  unfold wordsOf
  rw [List.range_succ, List.map_append]
  rfl
theorem wordsOf_len (L : List Nat) (q : Nat) : (wordsOf L q).length = q := by simp [wordsOf]
end Obol
namespace Go.Proofs.YtallfmiikjmgaaaDoor
open Go.RowKit

theorem r5First (w : World) :
    Calls Tryd.prog 71 #[] w fun e w' => e = .returned (.agg (u32s Obol.firstL)) ∧ Below w.heap.size w w' := by
  go_enter Tryd.func71, Tryd.ntmps71
  go_wp2_with fail
  refine bodyPost_ret (v := .agg (u32s Obol.firstL)) (results_row rfl _ rfl (Row.new w (u32s Obol.firstL) 92) Tryd.underlying92 rfl (by kernel_rfl)) rfl ⟨rfl, ?_⟩
  exact bAlloc (Below.refl _ _) _

/-- The number of eight bytes, the lowest first. -/
def NumI (L : List Nat) (N i : Int) : Prop := 0 ≤ N ∧ -1 ≤ i ∧ i ≤ 7 ∧ N < 256 ^ (7 - i).toNat ∧ N = (((List.range (7 - i).toNat).foldl (fun n j => 256 * n + L.getD (7 - j) 0) 0 : Nat) : Int)
theorem NumI.bound {L : List Nat} {N i : Int} (h : NumI L N i) (hi : 0 ≤ i) : 0 ≤ N ∧ N < 72057594037927936 := by
  refine ⟨h.1, Int.lt_of_lt_of_le h.2.2.2.1 ?_⟩
  have : (256 : Nat) ^ (7 - i).toNat ≤ 256 ^ 7 := Nat.pow_le_pow_right (by decide) (by omega)
  have e : ((256 ^ (7 - i).toNat : Nat) : Int) = 256 ^ (7 - i).toNat := by rw [Int.natCast_pow]; rfl
  omega
theorem NumI.step {L : List Nat} {N i v : Int} (h : NumI L N i) (hi : 0 ≤ i) (hv : v = ((L.getD i.toNat 0 : Nat) : Int)) (v1 : v ≤ 255) : NumI L (256 * N + v) (i - 1) := by
  obtain ⟨h0, h1, h2, h3, h4⟩ := h
  have e : (7 - (i - 1)).toNat = (7 - i).toNat + 1 := by omega
  refine ⟨by omega, by omega, by omega, ?_, ?_⟩
  · rw [e, Int.pow_succ]; omega
  · rw [e, List.range_succ, List.foldl_append, h4, hv]
    simp only [List.foldl]
    rw [show 7 - (7 - i).toNat = i.toNat by omega]
    omega
theorem NumI.done {L : List Nat} {N : Int} (h : NumI L N (-1)) : N = ((Obol.numL L : Nat) : Int) := by
  have := h.2.2.2.2
  rw [this]
  simp [List.range, List.range.loop, List.foldl, Obol.numL, Obol.wordAt]
  omega
/-- Words as cells; a slice of the call's own. -/
abbrev U32 (L : List Nat) : List Value := L.map fun (n : Nat) => Value.int .u32 (n : Int)
def OwnW (w : World) (base : Nat) (v : Value) (L : List Nat) : Prop := w.ownsRow base 91 1 v L.length (U32 L)
theorem OwnW.nil (w : World) (base : Nat) : OwnW w base (.slice none 0 0) [] := World.ownsRow_nil _ _ _ _
theorem OwnW.app {w : World} {base : Nat} {v : Value} {L M : List Nat} {news : List Value} (h : w.ownsRow base 91 1 v (L.length + M.length) (U32 L ++ news)) (e : news = U32 M) : OwnW w base v (L ++ M) := by
  subst e; unfold OwnW; rw [List.length_append, U32, List.map_append]; exact h
theorem OwnB.app {w : World} {base : Nat} {v : Value} {L M : List Nat} {news : List Value} (h : w.ownsRow base 5 1 v (L.length + M.length) (U8 L ++ news)) (e : news = U8 M) : OwnB w base v (L ++ M) := by
  subst e; unfold OwnB; rw [List.length_append, U8, List.map_append]; exact h
/-- The cells from o on are these words. -/
def WL (w : World) (b o : Nat) (L : List Nat) : Prop := ∀ i, i < L.length → w.cell? ⟨b, o + i, none⟩ = some (.int .u32 ((L.getD i 0 : Nat) : Int))
theorem WL.below {B : Nat} {w w' : World} {b o : Nat} {L : List Nat} (h : WL w b o L) (hb : Below B w w') (hB : b < B) : WL w' b o L := fun i hi => (hb.cell (p := ⟨b, o + i, none⟩) hB).trans (h i hi)
theorem WL.lt {w : World} {b o : Nat} {L : List Nat} (h : WL w b o L) (h0 : 0 < L.length) : b < w.heap.size := World.block_lt_of_cell? w ⟨b, o + 0, none⟩ (h 0 h0)
theorem OwnW.size {w : World} {base : Nat} {v : Value} {L : List Nat} (h : OwnW w base v L) (h0 : 0 < L.length) : ∃ g cap, v = .slice (some ⟨g, 0, none⟩) L.length cap ∧ base ≤ g ∧ g < w.heap.size ∧ L.length ≤ cap ∧ WL w g 0 L := by
  rcases h.2 with ⟨rfl, h⟩ | ⟨g, cap, cur, h1, h2, h3, h4, h5, h6, h7⟩
  · omega
  · subst h1
    refine ⟨g, cap, rfl, h2, (Array.getElem?_eq_some_iff.1 h3).1, h4, fun i hi => ?_⟩
    rw [Nat.zero_add, World.ownsRow.cellAt h i (by omega)]
    simp only [List.getElem?_map, List.getElem?_eq_getElem hi, List.getD_eq_getElem?_getD]
    rfl
theorem OwnW.keep {w w' : World} {base B : Nat} {v : Value} {L : List Nat} (h : OwnW w base v L) (hb : Below B w w') (hB : w.heap.size ≤ B) : OwnW w' base v L := by
  refine ⟨h.1, ?_⟩
  rcases h.2 with h | ⟨g, cap, cur, h1, h2, h3, h4⟩
  · exact .inl h
  · exact .inr ⟨g, cap, cur, h1, h2, (hb.block g (Nat.lt_of_lt_of_le (Array.getElem?_eq_some_iff.1 h3).1 hB)).trans h3, h4⟩
theorem info32w : (Tryd.prog.info? 91).map (fun i => (i.zero, i.size, i.bytes)) = some (some (.int .u32 0), 1, 4) := by kernel_rfl
theorem info_parts4 {i : Option TypeInfo} {z : Value} {s b : Nat} (h : i.map (fun i => (i.zero, i.size, i.bytes)) = some (some z, s, b)) : ∃ t, i = some t ∧ t.zero = some z ∧ t.size = s ∧ t.bytes = b := by
  cases i with
  | none => simp at h
  | some t => simp at h; exact ⟨t, rfl, h.1, h.2.1, h.2.2⟩
theorem wcell {w w' : World} {b o B : Nat} {v : Value} (hc : w.cell? ⟨b, o, none⟩ = some v) (hb : Below B w w') (hB : b < B) : w'.cell? ⟨b, o, none⟩ = some v := (hb.cell (p := ⟨b, o, none⟩) hB).trans hc

set_option maxRecDepth 4000 in
set_option maxHeartbeats 1000000 in
theorem r5Words (b o len cap : Nat) (L : List Nat) (q : Nat) (hq1 : len ≤ 4 * q) (hq2 : 4 * q ≤ len) (H0 : B8 len L) (hl2 : len ≤ 70368744177664) (w : World) (hb0 : b < w.heap.size) (hc0 : BL w b o L) :
    Calls Tryd.prog 70 #[.slice (some ⟨b, o, none⟩) len cap] w fun e w' => ∃ v, e = .returned v ∧ OwnW w' w.heap.size v (Obol.wordsOf L q) ∧ Below w.heap.size w w' := by
  have H := Lib.hid H0
  have C := Lib.hid hc0
  have hl3 : (len : Int) ≤ 70368744177664 := by omega
  clear hc0 H0
  obtain ⟨ti, hti, htz, hts, htb⟩ := info_parts4 info32w
  go_enter Tryd.func70, Tryd.ntmps70
  go_wp2
  go_loopw [3, 4] (fun q1 q2 wr => ∃ j : Nat, j ≤ q ∧ q2 = .int .i64 ((4 * j : Nat) : Int) ∧ OwnW wr w.heap.size q1 (Obol.wordsOf L j) ∧ Below w.heap.size w wr) (fun _ q2 _ => (4 * q - intOf q2).toNat)
  case atStart => exact ⟨0, by omega, rfl, OwnW.nil _ _, Below.refl _ _⟩
  case round =>
    obtain ⟨j, hj9, rfl, hO0, hW0⟩ := hrel
    have hO := Lib.hid hO0
    have hW := Lib.hid hW0
    have hsz := hW0.size
    clear hO0 hW0
    obtain ⟨i, hi⟩ : ∃ i : Int, ((4 * j : Nat) : Int) = i := ⟨_, rfl⟩
    rw [hi]
    have i0 : 0 ≤ i := by omega
    have w3 := wrap_small (x := i + 3) (by omega) (by omega)
    by_cases hj : j < q
    · have i3 : i + 3 < (len : Int) := by omega
      have w1 := wrap_small (x := i + 1) (by omega) (by omega)
      have w2 := wrap_small (x := i + 2) (by omega) (by omega)
      have w4 := wrap_small (x := i + 4) (by omega) (by omega)
      obtain ⟨v0, D0, e0, z0, u0⟩ := C.out.at H.out (i := i) (by omega) (by omega)
      have d0 := wcell D0 hW.out hb0
      replace D0 := Lib.hid D0
      obtain ⟨v1, D1, e1, z1, u1⟩ := C.out.at H.out (i := i + 1) (by omega) (by omega)
      have d1 := wcell D1 hW.out hb0
      replace D1 := Lib.hid D1
      obtain ⟨v2, D2, e2, z2, u2⟩ := C.out.at H.out (i := i + 2) (by omega) (by omega)
      have d2 := wcell D2 hW.out hb0
      replace D2 := Lib.hid D2
      obtain ⟨v3, D3, e3, z3, u3⟩ := C.out.at H.out (i := i + 3) (by omega) (by omega)
      have d3 := wcell D3 hW.out hb0
      replace D3 := Lib.hid D3
      have eV : Hid (v0 + 256 * v1 + 65536 * v2 + 16777216 * v3 = ((Obol.wordAt L (4 * j) : Nat) : Int)) := Lib.hid (by
        unfold Obol.wordAt
        rw [e0, e1, e2, e3, show i.toNat = 4 * j by omega, show (i + 1).toNat = 4 * j + 1 by omega, show (i + 2).toNat = 4 * j + 2 by omega, show (i + 3).toNat = 4 * j + 3 by omega]
        omega)
      have a1 : (0 : Int) ≤ i + 1 := by omega
      have a2 : (0 : Int) ≤ i + 2 := by omega
      have a3 : (0 : Int) ≤ i + 3 := by omega
      have l0 : i < (len : Int) := by omega
      have l1 : i + 1 < (len : Int) := by omega
      have l2 : i + 2 < (len : Int) := by omega
      have x1 : IntKind.u32.wrap (256 * v1) = 256 * v1 := by rw [IntKind.wrap_u32]; omega
      have x2 : IntKind.u32.wrap (65536 * v2) = 65536 * v2 := by rw [IntKind.wrap_u32]; omega
      have x3 : IntKind.u32.wrap (16777216 * v3) = 16777216 * v3 := by rw [IntKind.wrap_u32]; omega
      have y1 : IntKind.u32.wrap (v0 + 256 * v1) = v0 + 256 * v1 := by rw [IntKind.wrap_u32]; omega
      have y2 : IntKind.u32.wrap (v0 + 256 * v1 + 65536 * v2) = v0 + 256 * v1 + 65536 * v2 := by rw [IntKind.wrap_u32]; omega
      have y3 : IntKind.u32.wrap (v0 + 256 * v1 + 65536 * v2 + 16777216 * v3) = v0 + 256 * v1 + 65536 * v2 + 16777216 * v3 := by rw [IntKind.wrap_u32]; omega
      have k0 : IntKind.u32.wrap v0 = v0 := by rw [IntKind.wrap_u32]; omega
      have k1 : IntKind.u32.wrap v1 = v1 := by rw [IntKind.wrap_u32]; omega
      have k2 : IntKind.u32.wrap v2 = v2 := by rw [IntKind.wrap_u32]; omega
      have k3 : IntKind.u32.wrap v3 = v3 := by rw [IntKind.wrap_u32]; omega
      clear e0 e1 e2 e3
      go_wp2_with fail
      refine wp_region_noPanic ?_
      refine wp_region_held_drew (S := fun wq => wq.cell? ⟨b, o + i.toNat, none⟩ = some (.int .u8 v0) ∧ wq.cell? ⟨b, o + (i + 1).toNat, none⟩ = some (.int .u8 v1) ∧ wq.cell? ⟨b, o + (i + 2).toNat, none⟩ = some (.int .u8 v2) ∧ wq.cell? ⟨b, o + (i + 3).toNat, none⟩ = some (.int .u8 v3)) (by kernel_rfl) ?_ (fun hHeld => ?_)
      · exact ⟨d0, d1, d2, d3⟩
      refine takeH 0 (fun _ _ _ _ _ h => h) (by kernel_rfl) hHeld rfl (by kernel_rfl) (by rfl) (v := ?_) ?_ ?_
      rotate_left
      ((intro wz hz; (try dsimp only at hz); go_simp) <;> with_reducible rfl)
      try simp only [Act.put, List.setIfInBounds_toArray, List.set_cons_zero, List.set_cons_succ]
      refine takeH 1 (fun _ _ _ _ _ h => h) (by kernel_rfl) hHeld rfl (by kernel_rfl) (by rfl) (v := ?_) ?_ ?_
      rotate_left
      ((intro wz hz; (try dsimp only at hz); go_simp) <;> with_reducible rfl)
      try simp only [Act.put, List.setIfInBounds_toArray, List.set_cons_zero, List.set_cons_succ]
      refine takeH 2 (fun _ _ _ _ _ h => h) (by kernel_rfl) hHeld rfl (by kernel_rfl) (by rfl) (v := ?_) ?_ ?_
      rotate_left
      ((intro wz hz; (try dsimp only at hz); go_simp) <;> with_reducible rfl)
      try simp only [Act.put, List.setIfInBounds_toArray, List.set_cons_zero, List.set_cons_succ]
      refine takeH 3 (fun _ _ _ _ _ h => h) (by kernel_rfl) hHeld rfl (by kernel_rfl) (by rfl) (v := ?_) ?_ ?_
      rotate_left
      ((intro wz hz; (try dsimp only at hz); go_simp) <;> with_reducible rfl)
      try simp only [Act.put, List.setIfInBounds_toArray, List.set_cons_zero, List.set_cons_succ]
      refine takeH 4 (fun _ _ _ _ _ h => h) (by kernel_rfl) hHeld rfl (by kernel_rfl) (by rfl) (v := ?_) ?_ ?_
      rotate_left
      ((intro wz hz; (try dsimp only at hz); go_simp) <;> with_reducible rfl)
      try simp only [Act.put, List.setIfInBounds_toArray, List.set_cons_zero, List.set_cons_succ]
      refine takeH 5 (fun _ _ _ _ _ h => h) (by kernel_rfl) hHeld rfl (by kernel_rfl) (by rfl) (v := ?_) ?_ ?_
      rotate_left
      ((intro wz hz; (try dsimp only at hz); go_simp) <;> with_reducible rfl)
      try simp only [Act.put, List.setIfInBounds_toArray, List.set_cons_zero, List.set_cons_succ]
      refine takeH 6 (fun _ _ _ _ _ h => h) (by kernel_rfl) hHeld rfl (by kernel_rfl) (by rfl) (v := ?_) ?_ ?_
      rotate_left
      ((intro wz hz; (try dsimp only at hz); go_simp) <;> with_reducible rfl)
      try simp only [Act.put, List.setIfInBounds_toArray, List.set_cons_zero, List.set_cons_succ]
      refine takeH 7 (fun _ _ _ _ _ h => h) (by kernel_rfl) hHeld rfl (by kernel_rfl) (by rfl) (v := ?_) ?_ ?_
      rotate_left
      ((intro wz hz; (try dsimp only at hz); go_simp) <;> with_reducible rfl)
      try simp only [Act.put, List.setIfInBounds_toArray, List.set_cons_zero, List.set_cons_succ]
      refine takeH 8 (fun _ _ _ _ _ h => h) (by kernel_rfl) hHeld rfl (by kernel_rfl) (by rfl) (v := ?_) ?_ ?_
      rotate_left
      ((intro wz hz; (try dsimp only at hz); go_simp) <;> with_reducible rfl)
      try simp only [Act.put, List.setIfInBounds_toArray, List.set_cons_zero, List.set_cons_succ]
      refine takeH 9 (fun _ _ _ _ _ h => h) (by kernel_rfl) hHeld rfl (by kernel_rfl) (by rfl) (v := ?_) ?_ ?_
      rotate_left
      ((intro wz hz; (try dsimp only at hz); go_simp) <;> with_reducible rfl)
      try simp only [Act.put, List.setIfInBounds_toArray, List.set_cons_zero, List.set_cons_succ]
      refine takeH 10 (fun _ _ _ _ _ h => h) (by kernel_rfl) hHeld rfl (by kernel_rfl) (by rfl) (v := ?_) ?_ ?_
      rotate_left
      ((intro wz hz; (try dsimp only at hz); go_simp) <;> with_reducible rfl)
      try simp only [Act.put, List.setIfInBounds_toArray, List.set_cons_zero, List.set_cons_succ]
      refine takeH 11 (fun _ _ _ _ _ h => h) (by kernel_rfl) hHeld rfl (by kernel_rfl) (by rfl) (v := ?_) ?_ ?_
      rotate_left
      ((intro wz hz; (try dsimp only at hz); go_simp) <;> with_reducible rfl)
      try simp only [Act.put, List.setIfInBounds_toArray, List.set_cons_zero, List.set_cons_succ]
      refine takeH 12 (fun _ _ _ _ _ h => h) (by kernel_rfl) hHeld rfl (by kernel_rfl) (by rfl) (v := ?_) ?_ ?_
      rotate_left
      ((intro wz hz; (try dsimp only at hz); go_simp) <;> with_reducible rfl)
      try simp only [Act.put, List.setIfInBounds_toArray, List.set_cons_zero, List.set_cons_succ]
      refine takeH 13 (fun _ _ _ _ _ h => h) (by kernel_rfl) hHeld rfl (by kernel_rfl) (by rfl) (v := ?_) ?_ ?_
      rotate_left
      ((intro wz hz; (try dsimp only at hz); go_simp) <;> with_reducible rfl)
      try simp only [Act.put, List.setIfInBounds_toArray, List.set_cons_zero, List.set_cons_succ]
      refine takeH 14 (fun _ _ _ _ _ h => h) (by kernel_rfl) hHeld rfl (by kernel_rfl) (by rfl) (v := ?_) ?_ ?_
      rotate_left
      ((intro wz hz; (try dsimp only at hz); go_simp) <;> with_reducible rfl)
      try simp only [Act.put, List.setIfInBounds_toArray, List.set_cons_zero, List.set_cons_succ]
      refine takeH 15 (fun _ _ _ _ _ h => h) (by kernel_rfl) hHeld rfl (by kernel_rfl) (by rfl) (v := ?_) ?_ ?_
      rotate_left
      ((intro wz hz; (try dsimp only at hz); go_simp) <;> with_reducible rfl)
      try simp only [Act.put, List.setIfInBounds_toArray, List.set_cons_zero, List.set_cons_succ]
      refine takeH 16 (fun _ _ _ _ _ h => h) (by kernel_rfl) hHeld rfl (by kernel_rfl) (by rfl) (v := ?_) ?_ ?_
      rotate_left
      ((intro wz hz; (try dsimp only at hz); go_simp) <;> with_reducible rfl)
      try simp only [Act.put, List.setIfInBounds_toArray, List.set_cons_zero, List.set_cons_succ]
      refine takeH 17 (fun _ _ _ _ _ h => h) (by kernel_rfl) hHeld rfl (by kernel_rfl) (by rfl) (v := ?_) ?_ ?_
      rotate_left
      ((intro wz hz; (try dsimp only at hz); go_simp) <;> with_reducible rfl)
      try simp only [Act.put, List.setIfInBounds_toArray, List.set_cons_zero, List.set_cons_succ]
      refine takeH 18 (fun _ _ _ _ _ h => h) (by kernel_rfl) hHeld rfl (by kernel_rfl) (by rfl) (v := ?_) ?_ ?_
      rotate_left
      ((intro wz hz; (try dsimp only at hz); go_simp) <;> with_reducible rfl)
      try simp only [Act.put, List.setIfInBounds_toArray, List.set_cons_zero, List.set_cons_succ]
      refine takeH 19 (fun _ _ _ _ _ h => h) (by kernel_rfl) hHeld rfl (by kernel_rfl) (by rfl) (v := ?_) ?_ ?_
      rotate_left
      ((intro wz hz; (try dsimp only at hz); go_simp) <;> with_reducible rfl)
      try simp only [Act.put, List.setIfInBounds_toArray, List.set_cons_zero, List.set_cons_succ]
      refine takeH 20 (fun _ _ _ _ _ h => h) (by kernel_rfl) hHeld rfl (by kernel_rfl) (by rfl) (v := ?_) ?_ ?_
      rotate_left
      ((intro wz hz; (try dsimp only at hz); go_simp) <;> with_reducible rfl)
      try simp only [Act.put, List.setIfInBounds_toArray, List.set_cons_zero, List.set_cons_succ]
      refine takeH 21 (fun _ _ _ _ _ h => h) (by kernel_rfl) hHeld rfl (by kernel_rfl) (by rfl) (v := ?_) ?_ ?_
      rotate_left
      ((intro wz hz; (try dsimp only at hz); go_simp) <;> with_reducible rfl)
      try simp only [Act.put, List.setIfInBounds_toArray, List.set_cons_zero, List.set_cons_succ]
      refine takeH 22 (fun _ _ _ _ _ h => h) (by kernel_rfl) hHeld rfl (by kernel_rfl) (by rfl) (v := ?_) ?_ ?_
      rotate_left
      ((intro wz hz; (try dsimp only at hz); go_simp) <;> with_reducible rfl)
      try simp only [Act.put, List.setIfInBounds_toArray, List.set_cons_zero, List.set_cons_succ]
      refine takeH 23 (fun _ _ _ _ _ h => h) (by kernel_rfl) hHeld rfl (by kernel_rfl) (by rfl) (v := ?_) ?_ ?_
      rotate_left
      ((intro wz hz; (try dsimp only at hz); go_simp) <;> with_reducible rfl)
      try simp only [Act.put, List.setIfInBounds_toArray, List.set_cons_zero, List.set_cons_succ]
      refine takeH 24 (fun _ _ _ _ _ h => h) (by kernel_rfl) hHeld rfl (by kernel_rfl) (by rfl) (v := ?_) ?_ ?_
      rotate_left
      ((intro wz hz; (try dsimp only at hz); go_simp) <;> with_reducible rfl)
      try simp only [Act.put, List.setIfInBounds_toArray, List.set_cons_zero, List.set_cons_succ]
      refine takeH 25 (fun _ _ _ _ _ h => h) (by kernel_rfl) hHeld rfl (by kernel_rfl) (by rfl) (v := ?_) ?_ ?_
      rotate_left
      ((intro wz hz; (try dsimp only at hz); go_simp) <;> with_reducible rfl)
      try simp only [Act.put, List.setIfInBounds_toArray, List.set_cons_zero, List.set_cons_succ]
      refine takeH 26 (fun _ _ _ _ _ h => h) (by kernel_rfl) hHeld rfl (by kernel_rfl) (by rfl) (v := ?_) ?_ ?_
      rotate_left
      ((intro wz hz; (try dsimp only at hz); go_simp) <;> with_reducible rfl)
      try simp only [Act.put, List.setIfInBounds_toArray, List.set_cons_zero, List.set_cons_succ]
      refine takeH 27 (fun _ _ _ _ _ h => h) (by kernel_rfl) hHeld rfl (by kernel_rfl) (by rfl) (v := ?_) ?_ ?_
      rotate_left
      ((intro wz hz; (try dsimp only at hz); go_simp) <;> with_reducible rfl)
      try simp only [Act.put, List.setIfInBounds_toArray, List.set_cons_zero, List.set_cons_succ]
      refine takeH 28 (fun _ _ _ _ _ h => h) (by kernel_rfl) hHeld rfl (by kernel_rfl) (by rfl) (v := ?_) ?_ ?_
      rotate_left
      ((intro wz hz; (try dsimp only at hz); go_simp) <;> with_reducible rfl)
      try simp only [Act.put, List.setIfInBounds_toArray, List.set_cons_zero, List.set_cons_succ]
      refine takeH 29 (fun _ _ _ _ _ h => h) (by kernel_rfl) hHeld rfl (by kernel_rfl) (by rfl) (v := ?_) ?_ ?_
      rotate_left
      ((intro wz hz; (try dsimp only at hz); go_simp) <;> with_reducible rfl)
      try simp only [Act.put, List.setIfInBounds_toArray, List.set_cons_zero, List.set_cons_succ]
      refine stepH 30 (by kernel_rfl) rfl (by rfl) (fun K hK => ?_)
      go_simp
      refine hK.out _ _ ?_ (fun hHeld => ?_)
      · exact ⟨wcell d0 (bAlloc (bDrew (Below.refl _ wr)) _) (Nat.lt_of_lt_of_le hb0 hsz), wcell d1 (bAlloc (bDrew (Below.refl _ wr)) _) (Nat.lt_of_lt_of_le hb0 hsz), wcell d2 (bAlloc (bDrew (Below.refl _ wr)) _) (Nat.lt_of_lt_of_le hb0 hsz), wcell d3 (bAlloc (bDrew (Below.refl _ wr)) _) (Nat.lt_of_lt_of_le hb0 hsz)⟩
      clear hK K
      try simp only [Act.put, List.setIfInBounds_toArray, List.set_cons_zero, List.set_cons_succ]
      refine stepH 31 (by kernel_rfl) rfl (by rfl) (fun K hK => ?_)
      (refine wp_append_own _ _ _ 89 rfl w.heap.size 91 ti (.int .u32 0) 1 4 Tryd.underlying89 hti htz hts htb rfl (by decide) _ _ _ rfl (hO.out.keep (bAlloc (bDrew (Below.refl _ wr)) _) (Nat.le_refl _)) ⟨wr.heap.size, 0, none⟩ 1 1 [.int .u32 (v0 + 256 * v1 + 65536 * v2 + 16777216 * v3)] ?c0 rfl ?c1 ?c2 ?c3 ?c4 ?c5 ?_)
      case c0 => rfl
      case c1 => intro q u hq; match q, hq with | 0, hq => simp at hq; subst hq; simp [Addr.add]
      case c2 => intro u hu; simp at hu; subst hu; rfl
      case c3 => rw [Obol.wordsOf_len]; unfold maxLen; omega
      case c4 => rw [Obol.wordsOf_len]; omega
      case c5 => simp; omega
      intro v' w1 hown' hgrow _
      have hrow := hO.out.2
      have HO : Hid (OwnW w1 w.heap.size v' (Obol.wordsOf L (j + 1))) := Lib.hid (by rw [Obol.wordsOf_succ]; exact OwnW.app hown' (by rw [eV.out]; rfl))
      have HW : Hid (Below w.heap.size w w1) := Lib.hid ((bAlloc (bDrew hW.out) _).grown hgrow (by simp; omega) (fun q hq => (hO.out.lt q hq).1))
      refine hK.out _ _ ?_ (fun hHeld => ?_)
      · exact ⟨wcell D0.out HW.out hb0, wcell D1.out HW.out hb0, wcell D2.out HW.out hb0, wcell D3.out HW.out hb0⟩
      clear hK K
      try simp only [Act.put, List.setIfInBounds_toArray, List.set_cons_zero, List.set_cons_succ]
      refine takeH 32 (fun _ _ _ _ _ h => h) (by kernel_rfl) hHeld rfl (by kernel_rfl) (by rfl) (v := ?_) ?_ ?_
      rotate_left
      ((intro wz hz; (try dsimp only at hz); go_simp) <;> with_reducible rfl)
      try simp only [Act.put, List.setIfInBounds_toArray, List.set_cons_zero, List.set_cons_succ]
      refine wpAnyH_done (by kernel_rfl) (NoPanic.normal ?_) _
      go_wp2
      go_roundw
      case rel => exact ⟨j + 1, by omega, by congr 1; omega, HO.out, HW.out⟩
      case measure => simp [intOf]; omega
    · obtain rfl : j = q := by omega
      have i3 : ¬ i + 3 < (len : Int) := by omega
      go_wp2_with fail
      go_ret
      exact ⟨_, rfl, hO.out, hW.out⟩

end Go.Proofs.YtallfmiikjmgaaaDoor
