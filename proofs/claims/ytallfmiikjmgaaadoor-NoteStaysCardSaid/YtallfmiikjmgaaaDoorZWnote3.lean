import Derived.Test.YtallfmiikjmgaaaDoorZWnote2
import Derived.Test.YtallfmiikjmgaaaDoorMI
set_option linter.unusedVariables false
set_option linter.unusedSimpArgs false
/- Walks: package note: a note sealed. -/
namespace Go.Proofs.YtallfmiikjmgaaaDoor
open Go.RowKit

/-- A multiple, as numbers. -/
theorem mul_pt (p : Nat × Nat) (k : Nat) : ∃ x y : Int, 0 ≤ x ∧ 0 ≤ y ∧ x < 288230376287764481 ∧ y < 288230376287764481 ∧ (((Obol.smulN p k).1 : Nat) : Int) = x ∧ (((Obol.smulN p k).2 : Nat) : Int) = y ∧ Obol.isN (x.toNat, y.toNat) = true := by
  have e : Obol.smulN p k = (Obol.Pnt.smul k (Obol.Pnt.of p)).n := Obol.smulN_eq p k
  obtain ⟨q, hq⟩ : ∃ q, Obol.Pnt.smul k (Obol.Pnt.of p) = q := ⟨_, rfl⟩
  rw [hq] at e
  have h1 : q.x.val < 288230376287764481 := Nat.lt_of_lt_of_eq q.x.isLt Obol.R_def
  have h2 : q.y.val < 288230376287764481 := Nat.lt_of_lt_of_eq q.y.isLt Obol.R_def
  refine ⟨_, _, ?_, ?_, ?_, ?_, rfl, rfl, ?_⟩
  · omega
  · omega
  · rw [e]; show ((q.x.val : Nat) : Int) < _; omega
  · rw [e]; show ((q.y.val : Nat) : Int) < _; omega
  · rw [Int.toNat_natCast, Int.toNat_natCast, e]; exact Obol.pt_isN q
abbrev adV (a b c : Int) : Value := .agg #[.int .u64 a, .int .u64 b, .int .u64 c]
abbrev GP : Nat × Nat := ((223588670687113535 : Int).toNat, (82055451961885530 : Int).toNat)
noncomputable def z12 : List Nat := Obol.cpS 12 [] 0
/-- A note's bytes. -/
def noteT (v r : Nat) : List Nat := Obol.be8 v ++ Obol.be8 r
/-- What is sealed. -/
noncomputable def bodyL (K : List Nat) (v r : Nat) : List Nat := Obol.strm K z12 (noteT v r) ++ Obol.bothL K z12 [] (Obol.strm K z12 (noteT v r))
theorem noteT_b8 (v r : Nat) : B8 16 (noteT v r) := ⟨by unfold noteT; rw [List.length_append, (be8_b8 v).len, (be8_b8 r).len], Obol.lt_app (be8_b8 v).lt (be8_b8 r).lt⟩
def txt (v r : Nat) : Nat → List Nat
  | 0 => []
  | 1 => Obol.be8 v
  | _ => Obol.be8 v ++ Obol.be8 r
theorem txt_len (v r : Nat) {j : Nat} (h : j ≤ 2) : (txt v r j).length = 8 * j := by
  match j, h with
  | 0, _ => rfl
  | 1, _ => rfl
  | 2, _ => rfl
theorem txt_succ (v r : Nat) {j : Nat} (h : j < 2) : txt v r (j + 1) = txt v r j ++ Obol.be8 (if j = 0 then v else r) := by
  match j, h with
  | 0, _ => rfl
  | 1, _ => rfl
theorem be8_take (n : Nat) {j : Nat} (h : j < 8) : (Obol.be8 n).take (j + 1) = (Obol.be8 n).take j ++ [n / 2 ^ (56 - 8 * j) % 256] := take_be n j h
set_option maxRecDepth 8000 in
set_option maxHeartbeats 2000000 in
theorem nSealMay (v o r ow px py e : Int) (v0 : 0 ≤ v) (v1 : v ≤ 18446744073709551615) (r0 : 0 ≤ r) (r1 : r ≤ 18446744073709551615) (px0 : 0 ≤ px) (py0 : 0 ≤ py) (e0 : 0 ≤ e) (e1 : e ≤ 18446744073709551615) (h : ¬ mayI v o r) (w : World) :
    Calls Tryd.prog 19 #[ntV v o r, adV ow px py, .int .u64 e] w fun e' w' => e' = .returned (.tuple #[.agg #[.int .u64 0, .int .u64 0, .slice none 0 0], errN 1]) ∧ Below w.heap.size w w' := by
  have cC := Lib.hid (fun W => nCheckN v o r h W)
  clear h
  go_enter Tryd.func19, Tryd.ntmps19
  go_upto_region 1 with fail
  have H1 := Lib.hid ((((HR.refl w).new #[.int .u64 v, .int .u64 o, .int .u64 r] 41).new #[.int .u64 ow, .int .u64 px, .int .u64 py] 31).new #[.int .u64 0, .int .u64 0, .slice none 0 0] 44)
  simp only [World.size_alloc] at H1
  generalize ((w.alloc (.cells #[.int .u64 v, .int .u64 o, .int .u64 r] 41)).alloc (.cells #[.int .u64 ow, .int .u64 px, .int .u64 py] 31)).alloc (.cells #[.int .u64 0, .int .u64 0, .slice none 0 0] 44) = w1 at H1 ⊢
  obtain ⟨b2, hb2⟩ : ∃ z, w.heap.size + 1 + 1 = z := ⟨_, rfl⟩
  obtain ⟨b1, hb1⟩ : ∃ z, w.heap.size + 1 = z := ⟨_, rfl⟩
  obtain ⟨b0, hb0⟩ : ∃ z, w.heap.size = z := ⟨_, rfl⟩
  have H2 : Hid (HR w w1 [(b2, #[.int .u64 0, .int .u64 0, .slice none 0 0], 44), (b1, #[.int .u64 ow, .int .u64 px, .int .u64 py], 31), (b0, #[.int .u64 v, .int .u64 o, .int .u64 r], 41)]) := Lib.hid (by rw [← hb2, ← hb1, ← hb0]; exact H1.out)
  rw [hb2, hb1, hb0]
  have ho : Hid (w.heap.size ≤ b0 ∧ b0 < b1 ∧ b1 < b2) := Lib.hid (by omega)
  replace hb0 := Lib.hid hb0
  replace hb1 := Lib.hid hb1
  replace hb2 := Lib.hid hb2
  clear H1
  have c_b2_0 := H2.out.cell (b := b2) (cs := #[.int .u64 0, .int .u64 0, .slice none 0 0]) (t := 44) (by simp) 0 rfl
  have c_b2_1 := H2.out.cell (b := b2) (cs := #[.int .u64 0, .int .u64 0, .slice none 0 0]) (t := 44) (by simp) 1 rfl
  have c_b2_2 := H2.out.cell (b := b2) (cs := #[.int .u64 0, .int .u64 0, .slice none 0 0]) (t := 44) (by simp) 2 rfl
  have c_b1_0 := H2.out.cell (b := b1) (cs := #[.int .u64 ow, .int .u64 px, .int .u64 py]) (t := 31) (by simp) 0 rfl
  have c_b1_1 := H2.out.cell (b := b1) (cs := #[.int .u64 ow, .int .u64 px, .int .u64 py]) (t := 31) (by simp) 1 rfl
  have c_b1_2 := H2.out.cell (b := b1) (cs := #[.int .u64 ow, .int .u64 px, .int .u64 py]) (t := 31) (by simp) 2 rfl
  have c_b0_0 := H2.out.cell (b := b0) (cs := #[.int .u64 v, .int .u64 o, .int .u64 r]) (t := 41) (by simp) 0 rfl
  have c_b0_1 := H2.out.cell (b := b0) (cs := #[.int .u64 v, .int .u64 o, .int .u64 r]) (t := 41) (by simp) 1 rfl
  have c_b0_2 := H2.out.cell (b := b0) (cs := #[.int .u64 v, .int .u64 o, .int .u64 r]) (t := 41) (by simp) 2 rfl
  go_wp2_with fail
  refine (cC.out _).mono ?_
  rintro e' w3 ⟨rfl, hb3⟩
  have H3 := Lib.hid (H2.out.next hb3)
  clear c_b2_0 c_b2_1 c_b2_2 c_b1_0 c_b1_1 c_b1_2 c_b0_0 c_b0_1 c_b0_2
  clear hb3 H2
  have c_b2_0 := H3.out.cell (b := b2) (cs := #[.int .u64 0, .int .u64 0, .slice none 0 0]) (t := 44) (by simp) 0 rfl
  have c_b2_1 := H3.out.cell (b := b2) (cs := #[.int .u64 0, .int .u64 0, .slice none 0 0]) (t := 44) (by simp) 1 rfl
  have c_b2_2 := H3.out.cell (b := b2) (cs := #[.int .u64 0, .int .u64 0, .slice none 0 0]) (t := 44) (by simp) 2 rfl
  have c_b1_0 := H3.out.cell (b := b1) (cs := #[.int .u64 ow, .int .u64 px, .int .u64 py]) (t := 31) (by simp) 0 rfl
  have c_b1_1 := H3.out.cell (b := b1) (cs := #[.int .u64 ow, .int .u64 px, .int .u64 py]) (t := 31) (by simp) 1 rfl
  have c_b1_2 := H3.out.cell (b := b1) (cs := #[.int .u64 ow, .int .u64 px, .int .u64 py]) (t := 31) (by simp) 2 rfl
  have c_b0_0 := H3.out.cell (b := b0) (cs := #[.int .u64 v, .int .u64 o, .int .u64 r]) (t := 41) (by simp) 0 rfl
  have c_b0_1 := H3.out.cell (b := b0) (cs := #[.int .u64 v, .int .u64 o, .int .u64 r]) (t := 41) (by simp) 1 rfl
  have c_b0_2 := H3.out.cell (b := b0) (cs := #[.int .u64 v, .int .u64 o, .int .u64 r]) (t := 41) (by simp) 2 rfl
  have f_b2_0 := H3.out.free (b := b2) (cs := #[.int .u64 0, .int .u64 0, .slice none 0 0]) (t := 44) (by simp) 0
  have f_b2_1 := H3.out.free (b := b2) (cs := #[.int .u64 0, .int .u64 0, .slice none 0 0]) (t := 44) (by simp) 1
  have f_b2_2 := H3.out.free (b := b2) (cs := #[.int .u64 0, .int .u64 0, .slice none 0 0]) (t := 44) (by simp) 2
  have B4 := Lib.hid (bSet (bSet (bSet H3.out.2 (b := b2) (o := 0) (u := .int .u64 0) (by have := ho.out; omega)) (b := b2) (o := 1) (u := .int .u64 0) (by have := ho.out; omega)) (b := b2) (o := 2) (u := .slice none 0 0) (by have := ho.out; omega))
  have hR := (H3.out.row (b := b2) (cs := #[.int .u64 0, .int .u64 0, .slice none 0 0]) (t := 44) (by simp)).set3 (v0 := .int .u64 0) (v1 := .int .u64 0) (v2 := .slice none 0 0)
  have s0 := hR.cell 0 rfl
  have s1 := hR.cell 1 rfl
  have s2 := hR.cell 2 rfl
  clear hR
  go_wp2_with fail
  refine bodyPost_ret (v := .tuple #[.agg #[.int .u64 0, .int .u64 0, .slice none 0 0], errN 1]) (by simp [results, Tryd.results19, go_sem, s0, s1, s2]) rfl ⟨rfl, B4.out⟩
set_option maxRecDepth 8000 in
set_option maxHeartbeats 2000000 in
theorem nSealPoint (v o r ow px py e : Int) (v0 : 0 ≤ v) (v1 : v ≤ 18446744073709551615) (r0 : 0 ≤ r) (r1 : r ≤ 18446744073709551615) (px0 : 0 ≤ px) (py0 : 0 ≤ py) (e0 : 0 ≤ e) (e1 : e ≤ 18446744073709551615) (h : mayI v o r) (hP : ∀ W, Calls Tryd.prog 39 #[edV px py] W fun e' w' => e' = .returned (.bool false) ∧ Below W.heap.size W w') (w : World) :
    Calls Tryd.prog 19 #[ntV v o r, adV ow px py, .int .u64 e] w fun e' w' => e' = .returned (.tuple #[.agg #[.int .u64 0, .int .u64 0, .slice none 0 0], errN 1]) ∧ Below w.heap.size w w' := by
  have cC := Lib.hid (fun W => nCheckY v o r h W)
  have cP := Lib.hid hP
  clear h hP
  go_enter Tryd.func19, Tryd.ntmps19
  go_upto_region 1 with fail
  have H1 := Lib.hid ((((HR.refl w).new #[.int .u64 v, .int .u64 o, .int .u64 r] 41).new #[.int .u64 ow, .int .u64 px, .int .u64 py] 31).new #[.int .u64 0, .int .u64 0, .slice none 0 0] 44)
  simp only [World.size_alloc] at H1
  generalize ((w.alloc (.cells #[.int .u64 v, .int .u64 o, .int .u64 r] 41)).alloc (.cells #[.int .u64 ow, .int .u64 px, .int .u64 py] 31)).alloc (.cells #[.int .u64 0, .int .u64 0, .slice none 0 0] 44) = w1 at H1 ⊢
  obtain ⟨b2, hb2⟩ : ∃ z, w.heap.size + 1 + 1 = z := ⟨_, rfl⟩
  obtain ⟨b1, hb1⟩ : ∃ z, w.heap.size + 1 = z := ⟨_, rfl⟩
  obtain ⟨b0, hb0⟩ : ∃ z, w.heap.size = z := ⟨_, rfl⟩
  have H2 : Hid (HR w w1 [(b2, #[.int .u64 0, .int .u64 0, .slice none 0 0], 44), (b1, #[.int .u64 ow, .int .u64 px, .int .u64 py], 31), (b0, #[.int .u64 v, .int .u64 o, .int .u64 r], 41)]) := Lib.hid (by rw [← hb2, ← hb1, ← hb0]; exact H1.out)
  rw [hb2, hb1, hb0]
  have ho : Hid (w.heap.size ≤ b0 ∧ b0 < b1 ∧ b1 < b2) := Lib.hid (by omega)
  replace hb0 := Lib.hid hb0
  replace hb1 := Lib.hid hb1
  replace hb2 := Lib.hid hb2
  clear H1
  have c_b2_0 := H2.out.cell (b := b2) (cs := #[.int .u64 0, .int .u64 0, .slice none 0 0]) (t := 44) (by simp) 0 rfl
  have c_b2_1 := H2.out.cell (b := b2) (cs := #[.int .u64 0, .int .u64 0, .slice none 0 0]) (t := 44) (by simp) 1 rfl
  have c_b2_2 := H2.out.cell (b := b2) (cs := #[.int .u64 0, .int .u64 0, .slice none 0 0]) (t := 44) (by simp) 2 rfl
  have c_b1_0 := H2.out.cell (b := b1) (cs := #[.int .u64 ow, .int .u64 px, .int .u64 py]) (t := 31) (by simp) 0 rfl
  have c_b1_1 := H2.out.cell (b := b1) (cs := #[.int .u64 ow, .int .u64 px, .int .u64 py]) (t := 31) (by simp) 1 rfl
  have c_b1_2 := H2.out.cell (b := b1) (cs := #[.int .u64 ow, .int .u64 px, .int .u64 py]) (t := 31) (by simp) 2 rfl
  have c_b0_0 := H2.out.cell (b := b0) (cs := #[.int .u64 v, .int .u64 o, .int .u64 r]) (t := 41) (by simp) 0 rfl
  have c_b0_1 := H2.out.cell (b := b0) (cs := #[.int .u64 v, .int .u64 o, .int .u64 r]) (t := 41) (by simp) 1 rfl
  have c_b0_2 := H2.out.cell (b := b0) (cs := #[.int .u64 v, .int .u64 o, .int .u64 r]) (t := 41) (by simp) 2 rfl
  go_wp2_with fail
  refine (cC.out _).mono ?_
  rintro e' w3 ⟨rfl, hb3⟩
  have H3 := Lib.hid (H2.out.next hb3)
  clear c_b2_0 c_b2_1 c_b2_2 c_b1_0 c_b1_1 c_b1_2 c_b0_0 c_b0_1 c_b0_2
  clear hb3 H2
  have c_b2_0 := H3.out.cell (b := b2) (cs := #[.int .u64 0, .int .u64 0, .slice none 0 0]) (t := 44) (by simp) 0 rfl
  have c_b2_1 := H3.out.cell (b := b2) (cs := #[.int .u64 0, .int .u64 0, .slice none 0 0]) (t := 44) (by simp) 1 rfl
  have c_b2_2 := H3.out.cell (b := b2) (cs := #[.int .u64 0, .int .u64 0, .slice none 0 0]) (t := 44) (by simp) 2 rfl
  have c_b1_0 := H3.out.cell (b := b1) (cs := #[.int .u64 ow, .int .u64 px, .int .u64 py]) (t := 31) (by simp) 0 rfl
  have c_b1_1 := H3.out.cell (b := b1) (cs := #[.int .u64 ow, .int .u64 px, .int .u64 py]) (t := 31) (by simp) 1 rfl
  have c_b1_2 := H3.out.cell (b := b1) (cs := #[.int .u64 ow, .int .u64 px, .int .u64 py]) (t := 31) (by simp) 2 rfl
  have c_b0_0 := H3.out.cell (b := b0) (cs := #[.int .u64 v, .int .u64 o, .int .u64 r]) (t := 41) (by simp) 0 rfl
  have c_b0_1 := H3.out.cell (b := b0) (cs := #[.int .u64 v, .int .u64 o, .int .u64 r]) (t := 41) (by simp) 1 rfl
  have c_b0_2 := H3.out.cell (b := b0) (cs := #[.int .u64 v, .int .u64 o, .int .u64 r]) (t := 41) (by simp) 2 rfl
  go_wp2_with fail
  refine (cP.out _).mono ?_
  rintro e' w4 ⟨rfl, hb4⟩
  have H4 := Lib.hid (H3.out.next hb4)
  clear c_b2_0 c_b2_1 c_b2_2 c_b1_0 c_b1_1 c_b1_2 c_b0_0 c_b0_1 c_b0_2
  clear hb4 H3
  have c_b2_0 := H4.out.cell (b := b2) (cs := #[.int .u64 0, .int .u64 0, .slice none 0 0]) (t := 44) (by simp) 0 rfl
  have c_b2_1 := H4.out.cell (b := b2) (cs := #[.int .u64 0, .int .u64 0, .slice none 0 0]) (t := 44) (by simp) 1 rfl
  have c_b2_2 := H4.out.cell (b := b2) (cs := #[.int .u64 0, .int .u64 0, .slice none 0 0]) (t := 44) (by simp) 2 rfl
  have c_b1_0 := H4.out.cell (b := b1) (cs := #[.int .u64 ow, .int .u64 px, .int .u64 py]) (t := 31) (by simp) 0 rfl
  have c_b1_1 := H4.out.cell (b := b1) (cs := #[.int .u64 ow, .int .u64 px, .int .u64 py]) (t := 31) (by simp) 1 rfl
  have c_b1_2 := H4.out.cell (b := b1) (cs := #[.int .u64 ow, .int .u64 px, .int .u64 py]) (t := 31) (by simp) 2 rfl
  have c_b0_0 := H4.out.cell (b := b0) (cs := #[.int .u64 v, .int .u64 o, .int .u64 r]) (t := 41) (by simp) 0 rfl
  have c_b0_1 := H4.out.cell (b := b0) (cs := #[.int .u64 v, .int .u64 o, .int .u64 r]) (t := 41) (by simp) 1 rfl
  have c_b0_2 := H4.out.cell (b := b0) (cs := #[.int .u64 v, .int .u64 o, .int .u64 r]) (t := 41) (by simp) 2 rfl
  have f_b2_0 := H4.out.free (b := b2) (cs := #[.int .u64 0, .int .u64 0, .slice none 0 0]) (t := 44) (by simp) 0
  have f_b2_1 := H4.out.free (b := b2) (cs := #[.int .u64 0, .int .u64 0, .slice none 0 0]) (t := 44) (by simp) 1
  have f_b2_2 := H4.out.free (b := b2) (cs := #[.int .u64 0, .int .u64 0, .slice none 0 0]) (t := 44) (by simp) 2
  have B4 := Lib.hid (bSet (bSet (bSet H4.out.2 (b := b2) (o := 0) (u := .int .u64 0) (by have := ho.out; omega)) (b := b2) (o := 1) (u := .int .u64 0) (by have := ho.out; omega)) (b := b2) (o := 2) (u := .slice none 0 0) (by have := ho.out; omega))
  have hR := (H4.out.row (b := b2) (cs := #[.int .u64 0, .int .u64 0, .slice none 0 0]) (t := 44) (by simp)).set3 (v0 := .int .u64 0) (v1 := .int .u64 0) (v2 := .slice none 0 0)
  have s0 := hR.cell 0 rfl
  have s1 := hR.cell 1 rfl
  have s2 := hR.cell 2 rfl
  clear hR
  go_wp2_with fail
  refine bodyPost_ret (v := .tuple #[.agg #[.int .u64 0, .int .u64 0, .slice none 0 0], errN 1]) (by simp [results, Tryd.results19, go_sem, s0, s1, s2]) rfl ⟨rfl, B4.out⟩
set_option maxRecDepth 8000 in
set_option maxHeartbeats 2000000 in
theorem nSealOut (v o r ow px py e : Int) (v0 : 0 ≤ v) (v1 : v ≤ 18446744073709551615) (r0 : 0 ≤ r) (r1 : r ≤ 18446744073709551615) (px0 : 0 ≤ px) (py0 : 0 ≤ py) (e0 : 0 ≤ e) (e1 : e ≤ 18446744073709551615) (h : mayI v o r) (hP : ∀ W, Calls Tryd.prog 39 #[edV px py] W fun e' w' => e' = .returned (.bool true) ∧ Below W.heap.size W w') (he : e < 1 ∨ 72057593894066549 ≤ e) (w : World) :
    Calls Tryd.prog 19 #[ntV v o r, adV ow px py, .int .u64 e] w fun e' w' => e' = .returned (.tuple #[.agg #[.int .u64 0, .int .u64 0, .slice none 0 0], errN 1]) ∧ Below w.heap.size w w' := by
  have cC := Lib.hid (fun W => nCheckY v o r h W)
  have cP := Lib.hid hP
  clear h hP
  by_cases g1 : e < 1
  · clear he
    go_enter Tryd.func19, Tryd.ntmps19
    go_upto_region 1 with fail
    have H1 := Lib.hid ((((HR.refl w).new #[.int .u64 v, .int .u64 o, .int .u64 r] 41).new #[.int .u64 ow, .int .u64 px, .int .u64 py] 31).new #[.int .u64 0, .int .u64 0, .slice none 0 0] 44)
    simp only [World.size_alloc] at H1
    generalize ((w.alloc (.cells #[.int .u64 v, .int .u64 o, .int .u64 r] 41)).alloc (.cells #[.int .u64 ow, .int .u64 px, .int .u64 py] 31)).alloc (.cells #[.int .u64 0, .int .u64 0, .slice none 0 0] 44) = w1 at H1 ⊢
    obtain ⟨b2, hb2⟩ : ∃ z, w.heap.size + 1 + 1 = z := ⟨_, rfl⟩
    obtain ⟨b1, hb1⟩ : ∃ z, w.heap.size + 1 = z := ⟨_, rfl⟩
    obtain ⟨b0, hb0⟩ : ∃ z, w.heap.size = z := ⟨_, rfl⟩
    have H2 : Hid (HR w w1 [(b2, #[.int .u64 0, .int .u64 0, .slice none 0 0], 44), (b1, #[.int .u64 ow, .int .u64 px, .int .u64 py], 31), (b0, #[.int .u64 v, .int .u64 o, .int .u64 r], 41)]) := Lib.hid (by rw [← hb2, ← hb1, ← hb0]; exact H1.out)
    rw [hb2, hb1, hb0]
    have ho : Hid (w.heap.size ≤ b0 ∧ b0 < b1 ∧ b1 < b2) := Lib.hid (by omega)
    replace hb0 := Lib.hid hb0
    replace hb1 := Lib.hid hb1
    replace hb2 := Lib.hid hb2
    clear H1
    have c_b2_0 := H2.out.cell (b := b2) (cs := #[.int .u64 0, .int .u64 0, .slice none 0 0]) (t := 44) (by simp) 0 rfl
    have c_b2_1 := H2.out.cell (b := b2) (cs := #[.int .u64 0, .int .u64 0, .slice none 0 0]) (t := 44) (by simp) 1 rfl
    have c_b2_2 := H2.out.cell (b := b2) (cs := #[.int .u64 0, .int .u64 0, .slice none 0 0]) (t := 44) (by simp) 2 rfl
    have c_b1_0 := H2.out.cell (b := b1) (cs := #[.int .u64 ow, .int .u64 px, .int .u64 py]) (t := 31) (by simp) 0 rfl
    have c_b1_1 := H2.out.cell (b := b1) (cs := #[.int .u64 ow, .int .u64 px, .int .u64 py]) (t := 31) (by simp) 1 rfl
    have c_b1_2 := H2.out.cell (b := b1) (cs := #[.int .u64 ow, .int .u64 px, .int .u64 py]) (t := 31) (by simp) 2 rfl
    have c_b0_0 := H2.out.cell (b := b0) (cs := #[.int .u64 v, .int .u64 o, .int .u64 r]) (t := 41) (by simp) 0 rfl
    have c_b0_1 := H2.out.cell (b := b0) (cs := #[.int .u64 v, .int .u64 o, .int .u64 r]) (t := 41) (by simp) 1 rfl
    have c_b0_2 := H2.out.cell (b := b0) (cs := #[.int .u64 v, .int .u64 o, .int .u64 r]) (t := 41) (by simp) 2 rfl
    go_wp2_with fail
    refine (cC.out _).mono ?_
    rintro e' w3 ⟨rfl, hb3⟩
    have H3 := Lib.hid (H2.out.next hb3)
    clear c_b2_0 c_b2_1 c_b2_2 c_b1_0 c_b1_1 c_b1_2 c_b0_0 c_b0_1 c_b0_2
    clear hb3 H2
    have c_b2_0 := H3.out.cell (b := b2) (cs := #[.int .u64 0, .int .u64 0, .slice none 0 0]) (t := 44) (by simp) 0 rfl
    have c_b2_1 := H3.out.cell (b := b2) (cs := #[.int .u64 0, .int .u64 0, .slice none 0 0]) (t := 44) (by simp) 1 rfl
    have c_b2_2 := H3.out.cell (b := b2) (cs := #[.int .u64 0, .int .u64 0, .slice none 0 0]) (t := 44) (by simp) 2 rfl
    have c_b1_0 := H3.out.cell (b := b1) (cs := #[.int .u64 ow, .int .u64 px, .int .u64 py]) (t := 31) (by simp) 0 rfl
    have c_b1_1 := H3.out.cell (b := b1) (cs := #[.int .u64 ow, .int .u64 px, .int .u64 py]) (t := 31) (by simp) 1 rfl
    have c_b1_2 := H3.out.cell (b := b1) (cs := #[.int .u64 ow, .int .u64 px, .int .u64 py]) (t := 31) (by simp) 2 rfl
    have c_b0_0 := H3.out.cell (b := b0) (cs := #[.int .u64 v, .int .u64 o, .int .u64 r]) (t := 41) (by simp) 0 rfl
    have c_b0_1 := H3.out.cell (b := b0) (cs := #[.int .u64 v, .int .u64 o, .int .u64 r]) (t := 41) (by simp) 1 rfl
    have c_b0_2 := H3.out.cell (b := b0) (cs := #[.int .u64 v, .int .u64 o, .int .u64 r]) (t := 41) (by simp) 2 rfl
    go_wp2_with fail
    refine (cP.out _).mono ?_
    rintro e' w4 ⟨rfl, hb4⟩
    have H4 := Lib.hid (H3.out.next hb4)
    clear c_b2_0 c_b2_1 c_b2_2 c_b1_0 c_b1_1 c_b1_2 c_b0_0 c_b0_1 c_b0_2
    clear hb4 H3
    have c_b2_0 := H4.out.cell (b := b2) (cs := #[.int .u64 0, .int .u64 0, .slice none 0 0]) (t := 44) (by simp) 0 rfl
    have c_b2_1 := H4.out.cell (b := b2) (cs := #[.int .u64 0, .int .u64 0, .slice none 0 0]) (t := 44) (by simp) 1 rfl
    have c_b2_2 := H4.out.cell (b := b2) (cs := #[.int .u64 0, .int .u64 0, .slice none 0 0]) (t := 44) (by simp) 2 rfl
    have c_b1_0 := H4.out.cell (b := b1) (cs := #[.int .u64 ow, .int .u64 px, .int .u64 py]) (t := 31) (by simp) 0 rfl
    have c_b1_1 := H4.out.cell (b := b1) (cs := #[.int .u64 ow, .int .u64 px, .int .u64 py]) (t := 31) (by simp) 1 rfl
    have c_b1_2 := H4.out.cell (b := b1) (cs := #[.int .u64 ow, .int .u64 px, .int .u64 py]) (t := 31) (by simp) 2 rfl
    have c_b0_0 := H4.out.cell (b := b0) (cs := #[.int .u64 v, .int .u64 o, .int .u64 r]) (t := 41) (by simp) 0 rfl
    have c_b0_1 := H4.out.cell (b := b0) (cs := #[.int .u64 v, .int .u64 o, .int .u64 r]) (t := 41) (by simp) 1 rfl
    have c_b0_2 := H4.out.cell (b := b0) (cs := #[.int .u64 v, .int .u64 o, .int .u64 r]) (t := 41) (by simp) 2 rfl
    have f_b2_0 := H4.out.free (b := b2) (cs := #[.int .u64 0, .int .u64 0, .slice none 0 0]) (t := 44) (by simp) 0
    have f_b2_1 := H4.out.free (b := b2) (cs := #[.int .u64 0, .int .u64 0, .slice none 0 0]) (t := 44) (by simp) 1
    have f_b2_2 := H4.out.free (b := b2) (cs := #[.int .u64 0, .int .u64 0, .slice none 0 0]) (t := 44) (by simp) 2
    have B4 := Lib.hid (bSet (bSet (bSet H4.out.2 (b := b2) (o := 0) (u := .int .u64 0) (by have := ho.out; omega)) (b := b2) (o := 1) (u := .int .u64 0) (by have := ho.out; omega)) (b := b2) (o := 2) (u := .slice none 0 0) (by have := ho.out; omega))
    have hR := (H4.out.row (b := b2) (cs := #[.int .u64 0, .int .u64 0, .slice none 0 0]) (t := 44) (by simp)).set3 (v0 := .int .u64 0) (v1 := .int .u64 0) (v2 := .slice none 0 0)
    have s0 := hR.cell 0 rfl
    have s1 := hR.cell 1 rfl
    have s2 := hR.cell 2 rfl
    clear hR
    go_wp2_with fail
    refine bodyPost_ret (v := .tuple #[.agg #[.int .u64 0, .int .u64 0, .slice none 0 0], errN 1]) (by simp [results, Tryd.results19, go_sem, s0, s1, s2]) rfl ⟨rfl, B4.out⟩
  · have g2 : 72057593894066549 ≤ e := by omega
    clear he
    go_enter Tryd.func19, Tryd.ntmps19
    go_upto_region 1 with fail
    have H1 := Lib.hid ((((HR.refl w).new #[.int .u64 v, .int .u64 o, .int .u64 r] 41).new #[.int .u64 ow, .int .u64 px, .int .u64 py] 31).new #[.int .u64 0, .int .u64 0, .slice none 0 0] 44)
    simp only [World.size_alloc] at H1
    generalize ((w.alloc (.cells #[.int .u64 v, .int .u64 o, .int .u64 r] 41)).alloc (.cells #[.int .u64 ow, .int .u64 px, .int .u64 py] 31)).alloc (.cells #[.int .u64 0, .int .u64 0, .slice none 0 0] 44) = w1 at H1 ⊢
    obtain ⟨b2, hb2⟩ : ∃ z, w.heap.size + 1 + 1 = z := ⟨_, rfl⟩
    obtain ⟨b1, hb1⟩ : ∃ z, w.heap.size + 1 = z := ⟨_, rfl⟩
    obtain ⟨b0, hb0⟩ : ∃ z, w.heap.size = z := ⟨_, rfl⟩
    have H2 : Hid (HR w w1 [(b2, #[.int .u64 0, .int .u64 0, .slice none 0 0], 44), (b1, #[.int .u64 ow, .int .u64 px, .int .u64 py], 31), (b0, #[.int .u64 v, .int .u64 o, .int .u64 r], 41)]) := Lib.hid (by rw [← hb2, ← hb1, ← hb0]; exact H1.out)
    rw [hb2, hb1, hb0]
    have ho : Hid (w.heap.size ≤ b0 ∧ b0 < b1 ∧ b1 < b2) := Lib.hid (by omega)
    replace hb0 := Lib.hid hb0
    replace hb1 := Lib.hid hb1
    replace hb2 := Lib.hid hb2
    clear H1
    have c_b2_0 := H2.out.cell (b := b2) (cs := #[.int .u64 0, .int .u64 0, .slice none 0 0]) (t := 44) (by simp) 0 rfl
    have c_b2_1 := H2.out.cell (b := b2) (cs := #[.int .u64 0, .int .u64 0, .slice none 0 0]) (t := 44) (by simp) 1 rfl
    have c_b2_2 := H2.out.cell (b := b2) (cs := #[.int .u64 0, .int .u64 0, .slice none 0 0]) (t := 44) (by simp) 2 rfl
    have c_b1_0 := H2.out.cell (b := b1) (cs := #[.int .u64 ow, .int .u64 px, .int .u64 py]) (t := 31) (by simp) 0 rfl
    have c_b1_1 := H2.out.cell (b := b1) (cs := #[.int .u64 ow, .int .u64 px, .int .u64 py]) (t := 31) (by simp) 1 rfl
    have c_b1_2 := H2.out.cell (b := b1) (cs := #[.int .u64 ow, .int .u64 px, .int .u64 py]) (t := 31) (by simp) 2 rfl
    have c_b0_0 := H2.out.cell (b := b0) (cs := #[.int .u64 v, .int .u64 o, .int .u64 r]) (t := 41) (by simp) 0 rfl
    have c_b0_1 := H2.out.cell (b := b0) (cs := #[.int .u64 v, .int .u64 o, .int .u64 r]) (t := 41) (by simp) 1 rfl
    have c_b0_2 := H2.out.cell (b := b0) (cs := #[.int .u64 v, .int .u64 o, .int .u64 r]) (t := 41) (by simp) 2 rfl
    go_wp2_with fail
    refine (cC.out _).mono ?_
    rintro e' w3 ⟨rfl, hb3⟩
    have H3 := Lib.hid (H2.out.next hb3)
    clear c_b2_0 c_b2_1 c_b2_2 c_b1_0 c_b1_1 c_b1_2 c_b0_0 c_b0_1 c_b0_2
    clear hb3 H2
    have c_b2_0 := H3.out.cell (b := b2) (cs := #[.int .u64 0, .int .u64 0, .slice none 0 0]) (t := 44) (by simp) 0 rfl
    have c_b2_1 := H3.out.cell (b := b2) (cs := #[.int .u64 0, .int .u64 0, .slice none 0 0]) (t := 44) (by simp) 1 rfl
    have c_b2_2 := H3.out.cell (b := b2) (cs := #[.int .u64 0, .int .u64 0, .slice none 0 0]) (t := 44) (by simp) 2 rfl
    have c_b1_0 := H3.out.cell (b := b1) (cs := #[.int .u64 ow, .int .u64 px, .int .u64 py]) (t := 31) (by simp) 0 rfl
    have c_b1_1 := H3.out.cell (b := b1) (cs := #[.int .u64 ow, .int .u64 px, .int .u64 py]) (t := 31) (by simp) 1 rfl
    have c_b1_2 := H3.out.cell (b := b1) (cs := #[.int .u64 ow, .int .u64 px, .int .u64 py]) (t := 31) (by simp) 2 rfl
    have c_b0_0 := H3.out.cell (b := b0) (cs := #[.int .u64 v, .int .u64 o, .int .u64 r]) (t := 41) (by simp) 0 rfl
    have c_b0_1 := H3.out.cell (b := b0) (cs := #[.int .u64 v, .int .u64 o, .int .u64 r]) (t := 41) (by simp) 1 rfl
    have c_b0_2 := H3.out.cell (b := b0) (cs := #[.int .u64 v, .int .u64 o, .int .u64 r]) (t := 41) (by simp) 2 rfl
    go_wp2_with fail
    refine (cP.out _).mono ?_
    rintro e' w4 ⟨rfl, hb4⟩
    have H4 := Lib.hid (H3.out.next hb4)
    clear c_b2_0 c_b2_1 c_b2_2 c_b1_0 c_b1_1 c_b1_2 c_b0_0 c_b0_1 c_b0_2
    clear hb4 H3
    have c_b2_0 := H4.out.cell (b := b2) (cs := #[.int .u64 0, .int .u64 0, .slice none 0 0]) (t := 44) (by simp) 0 rfl
    have c_b2_1 := H4.out.cell (b := b2) (cs := #[.int .u64 0, .int .u64 0, .slice none 0 0]) (t := 44) (by simp) 1 rfl
    have c_b2_2 := H4.out.cell (b := b2) (cs := #[.int .u64 0, .int .u64 0, .slice none 0 0]) (t := 44) (by simp) 2 rfl
    have c_b1_0 := H4.out.cell (b := b1) (cs := #[.int .u64 ow, .int .u64 px, .int .u64 py]) (t := 31) (by simp) 0 rfl
    have c_b1_1 := H4.out.cell (b := b1) (cs := #[.int .u64 ow, .int .u64 px, .int .u64 py]) (t := 31) (by simp) 1 rfl
    have c_b1_2 := H4.out.cell (b := b1) (cs := #[.int .u64 ow, .int .u64 px, .int .u64 py]) (t := 31) (by simp) 2 rfl
    have c_b0_0 := H4.out.cell (b := b0) (cs := #[.int .u64 v, .int .u64 o, .int .u64 r]) (t := 41) (by simp) 0 rfl
    have c_b0_1 := H4.out.cell (b := b0) (cs := #[.int .u64 v, .int .u64 o, .int .u64 r]) (t := 41) (by simp) 1 rfl
    have c_b0_2 := H4.out.cell (b := b0) (cs := #[.int .u64 v, .int .u64 o, .int .u64 r]) (t := 41) (by simp) 2 rfl
    have f_b2_0 := H4.out.free (b := b2) (cs := #[.int .u64 0, .int .u64 0, .slice none 0 0]) (t := 44) (by simp) 0
    have f_b2_1 := H4.out.free (b := b2) (cs := #[.int .u64 0, .int .u64 0, .slice none 0 0]) (t := 44) (by simp) 1
    have f_b2_2 := H4.out.free (b := b2) (cs := #[.int .u64 0, .int .u64 0, .slice none 0 0]) (t := 44) (by simp) 2
    have B4 := Lib.hid (bSet (bSet (bSet H4.out.2 (b := b2) (o := 0) (u := .int .u64 0) (by have := ho.out; omega)) (b := b2) (o := 1) (u := .int .u64 0) (by have := ho.out; omega)) (b := b2) (o := 2) (u := .slice none 0 0) (by have := ho.out; omega))
    have hR := (H4.out.row (b := b2) (cs := #[.int .u64 0, .int .u64 0, .slice none 0 0]) (t := 44) (by simp)).set3 (v0 := .int .u64 0) (v1 := .int .u64 0) (v2 := .slice none 0 0)
    have s0 := hR.cell 0 rfl
    have s1 := hR.cell 1 rfl
    have s2 := hR.cell 2 rfl
    clear hR
    go_wp2_with fail
    refine bodyPost_ret (v := .tuple #[.agg #[.int .u64 0, .int .u64 0, .slice none 0 0], errN 1]) (by simp [results, Tryd.results19, go_sem, s0, s1, s2]) rfl ⟨rfl, B4.out⟩
set_option maxRecDepth 8000 in
set_option maxHeartbeats 8000000 in
theorem nSeal (v o r ow px py e : Int) (v0 : 0 ≤ v) (v1 : v ≤ 18446744073709551615) (r0 : 0 ≤ r) (r1 : r ≤ 18446744073709551615) (px0 : 0 ≤ px) (py0 : 0 ≤ py) (e0 : 0 ≤ e) (e1 : e ≤ 18446744073709551615) (h : mayI v o r) (hP : ∀ W, Calls Tryd.prog 39 #[edV px py] W fun e' w' => e' = .returned (.bool true) ∧ Below W.heap.size W w') (h1 : 1 ≤ e) (h2 : e < 72057593894066549) (w : World) (hG : RowsAt w) :
    Calls Tryd.prog 19 #[ntV v o r, adV ow px py, .int .u64 e] w fun e' w' => ∃ (gs cs : Nat) (ex ey : Int), e' = .returned (.tuple #[.agg #[.int .u64 ex, .int .u64 ey, .slice (some ⟨gs, 0, none⟩) 32 cs], .nilIface]) ∧ 0 ≤ ex ∧ 0 ≤ ey ∧ ex < 288230376287764481 ∧ ey < 288230376287764481 ∧ (((Obol.smulN GP e.toNat).1 : Nat) : Int) = ex ∧ (((Obol.smulN GP e.toNat).2 : Nat) : Int) = ey ∧ OwnB w' w.heap.size (.slice (some ⟨gs, 0, none⟩) 32 cs) (bodyL (secL (Obol.smulN GP e.toNat) (Obol.smulN (px.toNat, py.toNat) e.toNat)) v.toNat r.toNat) ∧ Below w.heap.size w w' := by
  have cC := Lib.hid (fun W => nCheckY v o r h W)
  have cP := Lib.hid hP
  have G := Lib.hid hG
  have cG := fun W => eMulK 223588670687113535 82055451961885530 e (by omega) (by omega) e0 e1 W
  have cM := fun W => eMulK px py e px0 py0 e0 e1 W
  obtain ⟨ex, ey, ex0, ey0, exR, eyR, hex, hey, hEn⟩ := mul_pt GP e.toNat
  obtain ⟨mx, my, mx0, my0, mxR, myR, hmx, hmy, hMn⟩ := mul_pt (px.toNat, py.toNat) e.toNat
  rw [hex, hey] at cG
  rw [hmx, hmy] at cM
  have cX := fun W hG => nShared ex ey mx my ex0 ey0 mx0 my0 hEn hMn W hG
  have e1 : (ex.toNat, ey.toNat) = Obol.smulN GP e.toNat := Prod.ext (by show ex.toNat = _; omega) (by show ey.toNat = _; omega)
  have e2 : (mx.toNat, my.toNat) = Obol.smulN (px.toNat, py.toNat) e.toNat := Prod.ext (by show mx.toNat = _; omega) (by show my.toNat = _; omega)
  rw [e1, e2] at cX
  have hK8 := Lib.hid (secL_b8 (Obol.smulN GP e.toNat) (Obol.smulN (px.toNat, py.toNat) e.toNat))
  obtain ⟨K, hK⟩ : ∃ l, secL (Obol.smulN GP e.toNat) (Obol.smulN (px.toNat, py.toNat) e.toNat) = l := ⟨_, rfl⟩
  rw [hK] at cX hK8 ⊢
  rw [hex, hey]
  have hz12 : Hid (B8 12 z12) := Lib.hid (cp0_b8 12)
  have mk12 : ∀ W, (Instr.makeSlice 42 (.int .i64 12) (.int .i64 12)).run Tryd.prog W = .ok (.slice (some ⟨W.heap.size, 0, none⟩) 12 12) (W.alloc (.cells (u8s z12) 5)) := fun W => make8 12 (by omega) W
  replace cG := Lib.hid cG
  replace cM := Lib.hid cM
  replace cX := Lib.hid cX
  replace hK := Lib.hid hK
  clear h hP hex hey hmx hmy hEn hMn e1 e2 hG
  go_enter Tryd.func19, Tryd.ntmps19
  go_upto_region 1 with fail
  have H1 := Lib.hid ((((HR.refl w).new #[.int .u64 v, .int .u64 o, .int .u64 r] 41).new #[.int .u64 ow, .int .u64 px, .int .u64 py] 31).new #[.int .u64 0, .int .u64 0, .slice none 0 0] 44)
  simp only [World.size_alloc] at H1
  generalize ((w.alloc (.cells #[.int .u64 v, .int .u64 o, .int .u64 r] 41)).alloc (.cells #[.int .u64 ow, .int .u64 px, .int .u64 py] 31)).alloc (.cells #[.int .u64 0, .int .u64 0, .slice none 0 0] 44) = w1 at H1 ⊢
  obtain ⟨b2, hb2⟩ : ∃ z, w.heap.size + 1 + 1 = z := ⟨_, rfl⟩
  obtain ⟨b1, hb1⟩ : ∃ z, w.heap.size + 1 = z := ⟨_, rfl⟩
  obtain ⟨b0, hb0⟩ : ∃ z, w.heap.size = z := ⟨_, rfl⟩
  have H2 : Hid (HR w w1 [(b2, #[.int .u64 0, .int .u64 0, .slice none 0 0], 44), (b1, #[.int .u64 ow, .int .u64 px, .int .u64 py], 31), (b0, #[.int .u64 v, .int .u64 o, .int .u64 r], 41)]) := Lib.hid (by rw [← hb2, ← hb1, ← hb0]; exact H1.out)
  rw [hb2, hb1, hb0]
  have ho : Hid (w.heap.size ≤ b0 ∧ b0 < b1 ∧ b1 < b2) := Lib.hid (by omega)
  replace hb0 := Lib.hid hb0
  replace hb1 := Lib.hid hb1
  replace hb2 := Lib.hid hb2
  clear H1
  have c_b2_0 := H2.out.cell (b := b2) (cs := #[.int .u64 0, .int .u64 0, .slice none 0 0]) (t := 44) (by simp) 0 rfl
  have c_b2_1 := H2.out.cell (b := b2) (cs := #[.int .u64 0, .int .u64 0, .slice none 0 0]) (t := 44) (by simp) 1 rfl
  have c_b2_2 := H2.out.cell (b := b2) (cs := #[.int .u64 0, .int .u64 0, .slice none 0 0]) (t := 44) (by simp) 2 rfl
  have c_b1_0 := H2.out.cell (b := b1) (cs := #[.int .u64 ow, .int .u64 px, .int .u64 py]) (t := 31) (by simp) 0 rfl
  have c_b1_1 := H2.out.cell (b := b1) (cs := #[.int .u64 ow, .int .u64 px, .int .u64 py]) (t := 31) (by simp) 1 rfl
  have c_b1_2 := H2.out.cell (b := b1) (cs := #[.int .u64 ow, .int .u64 px, .int .u64 py]) (t := 31) (by simp) 2 rfl
  have c_b0_0 := H2.out.cell (b := b0) (cs := #[.int .u64 v, .int .u64 o, .int .u64 r]) (t := 41) (by simp) 0 rfl
  have c_b0_1 := H2.out.cell (b := b0) (cs := #[.int .u64 v, .int .u64 o, .int .u64 r]) (t := 41) (by simp) 1 rfl
  have c_b0_2 := H2.out.cell (b := b0) (cs := #[.int .u64 v, .int .u64 o, .int .u64 r]) (t := 41) (by simp) 2 rfl
  go_wp2_with fail
  refine (cC.out _).mono ?_
  rintro e' w3 ⟨rfl, hb3⟩
  have H3 := Lib.hid (H2.out.next hb3)
  clear c_b2_0 c_b2_1 c_b2_2 c_b1_0 c_b1_1 c_b1_2 c_b0_0 c_b0_1 c_b0_2
  clear hb3 H2
  have c_b2_0 := H3.out.cell (b := b2) (cs := #[.int .u64 0, .int .u64 0, .slice none 0 0]) (t := 44) (by simp) 0 rfl
  have c_b2_1 := H3.out.cell (b := b2) (cs := #[.int .u64 0, .int .u64 0, .slice none 0 0]) (t := 44) (by simp) 1 rfl
  have c_b2_2 := H3.out.cell (b := b2) (cs := #[.int .u64 0, .int .u64 0, .slice none 0 0]) (t := 44) (by simp) 2 rfl
  have c_b1_0 := H3.out.cell (b := b1) (cs := #[.int .u64 ow, .int .u64 px, .int .u64 py]) (t := 31) (by simp) 0 rfl
  have c_b1_1 := H3.out.cell (b := b1) (cs := #[.int .u64 ow, .int .u64 px, .int .u64 py]) (t := 31) (by simp) 1 rfl
  have c_b1_2 := H3.out.cell (b := b1) (cs := #[.int .u64 ow, .int .u64 px, .int .u64 py]) (t := 31) (by simp) 2 rfl
  have c_b0_0 := H3.out.cell (b := b0) (cs := #[.int .u64 v, .int .u64 o, .int .u64 r]) (t := 41) (by simp) 0 rfl
  have c_b0_1 := H3.out.cell (b := b0) (cs := #[.int .u64 v, .int .u64 o, .int .u64 r]) (t := 41) (by simp) 1 rfl
  have c_b0_2 := H3.out.cell (b := b0) (cs := #[.int .u64 v, .int .u64 o, .int .u64 r]) (t := 41) (by simp) 2 rfl
  go_wp2_with fail
  refine (cP.out _).mono ?_
  rintro e' w4 ⟨rfl, hb4⟩
  have H4 := Lib.hid (H3.out.next hb4)
  clear c_b2_0 c_b2_1 c_b2_2 c_b1_0 c_b1_1 c_b1_2 c_b0_0 c_b0_1 c_b0_2
  clear hb4 H3
  have c_b2_0 := H4.out.cell (b := b2) (cs := #[.int .u64 0, .int .u64 0, .slice none 0 0]) (t := 44) (by simp) 0 rfl
  have c_b2_1 := H4.out.cell (b := b2) (cs := #[.int .u64 0, .int .u64 0, .slice none 0 0]) (t := 44) (by simp) 1 rfl
  have c_b2_2 := H4.out.cell (b := b2) (cs := #[.int .u64 0, .int .u64 0, .slice none 0 0]) (t := 44) (by simp) 2 rfl
  have c_b1_0 := H4.out.cell (b := b1) (cs := #[.int .u64 ow, .int .u64 px, .int .u64 py]) (t := 31) (by simp) 0 rfl
  have c_b1_1 := H4.out.cell (b := b1) (cs := #[.int .u64 ow, .int .u64 px, .int .u64 py]) (t := 31) (by simp) 1 rfl
  have c_b1_2 := H4.out.cell (b := b1) (cs := #[.int .u64 ow, .int .u64 px, .int .u64 py]) (t := 31) (by simp) 2 rfl
  have c_b0_0 := H4.out.cell (b := b0) (cs := #[.int .u64 v, .int .u64 o, .int .u64 r]) (t := 41) (by simp) 0 rfl
  have c_b0_1 := H4.out.cell (b := b0) (cs := #[.int .u64 v, .int .u64 o, .int .u64 r]) (t := 41) (by simp) 1 rfl
  have c_b0_2 := H4.out.cell (b := b0) (cs := #[.int .u64 v, .int .u64 o, .int .u64 r]) (t := 41) (by simp) 2 rfl
  have f_b2_0 := H4.out.free (b := b2) (cs := #[.int .u64 0, .int .u64 0, .slice none 0 0]) (t := 44) (by simp) 0
  have f_b2_1 := H4.out.free (b := b2) (cs := #[.int .u64 0, .int .u64 0, .slice none 0 0]) (t := 44) (by simp) 1
  have f_b2_2 := H4.out.free (b := b2) (cs := #[.int .u64 0, .int .u64 0, .slice none 0 0]) (t := 44) (by simp) 2
  have g1 : ¬ e < 1 := by omega
  have g2 : ¬ 72057593894066549 ≤ e := by omega
  go_wp2_with fail
  refine (eGen _).mono ?_
  rintro e' w5 ⟨rfl, hb5⟩
  have H5 := Lib.hid (H4.out.next hb5)
  clear c_b2_0 c_b2_1 c_b2_2 c_b1_0 c_b1_1 c_b1_2 c_b0_0 c_b0_1 c_b0_2 f_b2_0 f_b2_1 f_b2_2
  clear hb5 H4 g1 g2
  go_wp2_with fail
  refine (cG.out _).mono ?_
  rintro e' w6 ⟨rfl, hb6⟩
  have H6a := Lib.hid ((H5.out.next hb6).new #[.int .u64 ex, .int .u64 ey, .slice none 0 0] 44)
  have hb3lt := (H5.out.next hb6).lt (b := b2) (cs := #[.int .u64 0, .int .u64 0, .slice none 0 0]) (t := 44) (by simp)
  clear hb6 H5
  go_upto_region 7 with fail
  generalize w6.alloc (.cells #[.int .u64 ex, .int .u64 ey, .slice none 0 0] 44) = w7 at H6a ⊢
  obtain ⟨b3, hb3⟩ : ∃ z, w6.heap.size = z := ⟨_, rfl⟩
  rw [hb3] at H6a hb3lt ⊢
  have H6 : Hid (HR w w7 [(b3, #[.int .u64 ex, .int .u64 ey, .slice none 0 0], 44), (b2, #[.int .u64 0, .int .u64 0, .slice none 0 0], 44), (b1, #[.int .u64 ow, .int .u64 px, .int .u64 py], 31), (b0, #[.int .u64 v, .int .u64 o, .int .u64 r], 41)]) := H6a
  have ho3 : Hid (w.heap.size ≤ b0 ∧ b0 < b1 ∧ b1 < b2 ∧ b2 < b3) := Lib.hid ⟨ho.out.1, ho.out.2.1, ho.out.2.2, hb3lt⟩
  replace hb3 := Lib.hid hb3
  clear H6a hb3lt
  refine wp_region_noPanic ?_
  refine wp_region_held_drew (S := fun wq => wq.cell? ⟨b1, 0, none⟩ = some (.int .u64 ow) ∧ wq.cell? ⟨b1, 1, none⟩ = some (.int .u64 px) ∧ wq.cell? ⟨b1, 2, none⟩ = some (.int .u64 py) ∧ wq.cell? ⟨b3, 0, none⟩ = some (.int .u64 ex) ∧ wq.cell? ⟨b3, 1, none⟩ = some (.int .u64 ey) ∧ wq.cell? ⟨b3, 2, none⟩ = some (.slice none 0 0) ∧ HR w wq [(b3, #[.int .u64 ex, .int .u64 ey, .slice none 0 0], 44), (b2, #[.int .u64 0, .int .u64 0, .slice none 0 0], 44), (b1, #[.int .u64 ow, .int .u64 px, .int .u64 py], 31), (b0, #[.int .u64 v, .int .u64 o, .int .u64 r], 41)]) (by kernel_rfl) ?_ (fun hHeld => ?_)
  · have hq0 := HR.drew H6.out
    exact ⟨HR.cell hq0 (b := b1) (cs := #[.int .u64 ow, .int .u64 px, .int .u64 py]) (t := 31) (by simp) 0 rfl, HR.cell hq0 (b := b1) (cs := #[.int .u64 ow, .int .u64 px, .int .u64 py]) (t := 31) (by simp) 1 rfl, HR.cell hq0 (b := b1) (cs := #[.int .u64 ow, .int .u64 px, .int .u64 py]) (t := 31) (by simp) 2 rfl, HR.cell hq0 (b := b3) (cs := #[.int .u64 ex, .int .u64 ey, .slice none 0 0]) (t := 44) (by simp) 0 rfl, HR.cell hq0 (b := b3) (cs := #[.int .u64 ex, .int .u64 ey, .slice none 0 0]) (t := 44) (by simp) 1 rfl, HR.cell hq0 (b := b3) (cs := #[.int .u64 ex, .int .u64 ey, .slice none 0 0]) (t := 44) (by simp) 2 rfl, hq0⟩
  refine takeH 0 (fun _ _ _ _ _ h => h) (by kernel_rfl) hHeld rfl (by kernel_rfl) (by rfl) (v := ?_) ?_ ?_
  rotate_left
  ((intro wz hz; (try dsimp only at hz); go_simp) <;> with_reducible rfl)
  try simp only [Act.put, List.setIfInBounds_toArray, List.set_cons_zero, List.set_cons_succ]
  refine takeH 1 (fun _ _ _ _ _ h => h) (by kernel_rfl) hHeld rfl (by kernel_rfl) (by rfl) (v := ?_) ?_ ?_
  rotate_left
  ((intro wz hz; (try dsimp only at hz); go_simp) <;> with_reducible rfl)
  try simp only [Act.put, List.setIfInBounds_toArray, List.set_cons_zero, List.set_cons_succ]
  refine takeH 2 (fun _ _ _ _ _ h => h) (by kernel_rfl) hHeld rfl (by kernel_rfl) (by rfl) (v := ?_) ?_ ?_
  rotate_left
  ((intro wz hz; (try dsimp only at hz); go_simp) <;> with_reducible rfl)
  try simp only [Act.put, List.setIfInBounds_toArray, List.set_cons_zero, List.set_cons_succ]
  refine takeH 3 (fun _ _ _ _ _ h => h) (by kernel_rfl) hHeld rfl (by kernel_rfl) (by rfl) (v := ?_) ?_ ?_
  rotate_left
  ((intro wz hz; (try dsimp only at hz); go_simp) <;> with_reducible rfl)
  try simp only [Act.put, List.setIfInBounds_toArray, List.set_cons_zero, List.set_cons_succ]
  refine takeH 4 (fun _ _ _ _ _ h => h) (by kernel_rfl) hHeld rfl (by kernel_rfl) (by rfl) (v := ?_) ?_ ?_
  rotate_left
  ((intro wz hz; (try dsimp only at hz); go_simp) <;> with_reducible rfl)
  try simp only [Act.put, List.setIfInBounds_toArray, List.set_cons_zero, List.set_cons_succ]
  refine stepH 5 (by kernel_rfl) rfl (by rfl) (fun K hK => ?_)
  go_simp
  refine (cM.out _).mono ?_
  rintro e wc1 ⟨rfl, hbc1⟩
  have hrc1 := HR.next hHeld.2.2.2.2.2.2 hbc1
  refine hK.out _ _ ?_ (fun hHeld => ?_)
  · exact ⟨HR.cell hrc1 (b := b1) (cs := #[.int .u64 ow, .int .u64 px, .int .u64 py]) (t := 31) (by simp) 0 rfl, HR.cell hrc1 (b := b1) (cs := #[.int .u64 ow, .int .u64 px, .int .u64 py]) (t := 31) (by simp) 1 rfl, HR.cell hrc1 (b := b1) (cs := #[.int .u64 ow, .int .u64 px, .int .u64 py]) (t := 31) (by simp) 2 rfl, HR.cell hrc1 (b := b3) (cs := #[.int .u64 ex, .int .u64 ey, .slice none 0 0]) (t := 44) (by simp) 0 rfl, HR.cell hrc1 (b := b3) (cs := #[.int .u64 ex, .int .u64 ey, .slice none 0 0]) (t := 44) (by simp) 1 rfl, HR.cell hrc1 (b := b3) (cs := #[.int .u64 ex, .int .u64 ey, .slice none 0 0]) (t := 44) (by simp) 2 rfl, hrc1⟩
  clear hK K
  try simp only [Act.put, List.setIfInBounds_toArray, List.set_cons_zero, List.set_cons_succ]
  refine stepH 6 (by kernel_rfl) rfl (by rfl) (fun K hK => ?_)
  go_simp
  refine (cX.out _ (G.out.below hHeld.2.2.2.2.2.2.2)).mono ?_
  rintro e wc2 ⟨gk, ck, rfl, hOk, hbc2⟩
  have hrc2 := HR.next hHeld.2.2.2.2.2.2 hbc2
  refine hK.out _ _ ?_ (fun hHeld => ?_)
  · exact ⟨HR.cell hrc2 (b := b1) (cs := #[.int .u64 ow, .int .u64 px, .int .u64 py]) (t := 31) (by simp) 0 rfl, HR.cell hrc2 (b := b1) (cs := #[.int .u64 ow, .int .u64 px, .int .u64 py]) (t := 31) (by simp) 1 rfl, HR.cell hrc2 (b := b1) (cs := #[.int .u64 ow, .int .u64 px, .int .u64 py]) (t := 31) (by simp) 2 rfl, HR.cell hrc2 (b := b3) (cs := #[.int .u64 ex, .int .u64 ey, .slice none 0 0]) (t := 44) (by simp) 0 rfl, HR.cell hrc2 (b := b3) (cs := #[.int .u64 ex, .int .u64 ey, .slice none 0 0]) (t := 44) (by simp) 1 rfl, HR.cell hrc2 (b := b3) (cs := #[.int .u64 ex, .int .u64 ey, .slice none 0 0]) (t := 44) (by simp) 2 rfl, hrc2⟩
  clear hK K
  try simp only [Act.put, List.setIfInBounds_toArray, List.set_cons_zero, List.set_cons_succ]
  refine takeH 7 (fun _ _ _ _ _ h => h) (by kernel_rfl) hHeld rfl (by kernel_rfl) (by rfl) (v := ?_) ?_ ?_
  rotate_left
  ((intro wz hz; (try dsimp only at hz); go_simp) <;> with_reducible rfl)
  try simp only [Act.put, List.setIfInBounds_toArray, List.set_cons_zero, List.set_cons_succ]
  refine takeH 8 (fun _ _ _ _ _ h => h) (by kernel_rfl) hHeld rfl (by kernel_rfl) (by rfl) (v := ?_) ?_ ?_
  rotate_left
  ((intro wz hz; (try dsimp only at hz); go_simp) <;> with_reducible rfl)
  try simp only [Act.put, List.setIfInBounds_toArray, List.set_cons_zero, List.set_cons_succ]
  refine takeH 9 (fun _ _ _ _ _ h => h) (by kernel_rfl) hHeld rfl (by kernel_rfl) (by rfl) (v := ?_) ?_ ?_
  rotate_left
  ((intro wz hz; (try dsimp only at hz); go_simp) <;> with_reducible rfl)
  try simp only [Act.put, List.setIfInBounds_toArray, List.set_cons_zero, List.set_cons_succ]
  refine takeH 10 (fun _ _ _ _ _ h => h) (by kernel_rfl) hHeld rfl (by kernel_rfl) (by rfl) (v := ?_) ?_ ?_
  rotate_left
  ((intro wz hz; (try dsimp only at hz); go_simp) <;> with_reducible rfl)
  try simp only [Act.put, List.setIfInBounds_toArray, List.set_cons_zero, List.set_cons_succ]
  refine takeH 11 (fun _ _ _ _ _ h => h) (by kernel_rfl) hHeld rfl (by kernel_rfl) (by rfl) (v := ?_) ?_ ?_
  rotate_left
  ((intro wz hz; (try dsimp only at hz); go_simp) <;> with_reducible rfl)
  try simp only [Act.put, List.setIfInBounds_toArray, List.set_cons_zero, List.set_cons_succ]
  refine wpAnyH_done (by kernel_rfl) (NoPanic.normal ?_) _
  have H7 := Lib.hid hHeld.2.2.2.2.2.2
  have OK := Lib.hid hOk
  clear hOk hHeld
  have c_b0_0 := H7.out.cell (b := b0) (cs := #[.int .u64 v, .int .u64 o, .int .u64 r]) (t := 41) (by simp) 0 rfl
  have c_b0_1 := H7.out.cell (b := b0) (cs := #[.int .u64 v, .int .u64 o, .int .u64 r]) (t := 41) (by simp) 1 rfl
  have c_b0_2 := H7.out.cell (b := b0) (cs := #[.int .u64 v, .int .u64 o, .int .u64 r]) (t := 41) (by simp) 2 rfl
  go_upto_region 12 with fail
  clear c_b0_0 c_b0_1 c_b0_2
  have H8 := Lib.hid (H7.out.new #[.int .u64 v, .int .u64 r] 22)
  have OK8 := Lib.hid (OK.out.below (bAlloc (Below.refl _ wc2) (.cells #[.int .u64 v, .int .u64 r] 22)))
  clear H7 OK
  generalize wc2.alloc (.cells #[.int .u64 v, .int .u64 r] 22) = w8 at H8 OK8 ⊢
  obtain ⟨bt, hbt⟩ : ∃ z, wc2.heap.size = z := ⟨_, rfl⟩
  rw [hbt] at H8 ⊢
  replace hbt := Lib.hid hbt
  have RT := Lib.hid (H8.out.row (b := bt) (cs := #[.int .u64 v, .int .u64 r]) (t := 22) (by simp))
  have O0 : Hid (OwnB w8 w8.heap.size (.slice none (8 * 0) 0) (txt v.toNat r.toNat 0)) := Lib.hid (OwnB.nil _ _)
  have S0 : Hid (Below w8.heap.size w8 w8) := Lib.hid (Below.refl _ _)
  go_loopw [12, 60] (fun q1 q2 wr => ∃ (j : Nat) (a : Option Addr) (c : Nat), q1 = .slice a (8 * j) c ∧ q2 = .int .i64 (j : Int) ∧ j ≤ 2 ∧ Hid (OwnB wr w8.heap.size (.slice a (8 * j) c) (txt v.toNat r.toNat j)) ∧ Hid (Below w8.heap.size w8 wr)) (fun _ q2 _ => (2 - intOf q2).toNat)
  case atStart => exact ⟨0, none, 0, rfl, rfl, by omega, O0, S0⟩
  case round =>
    clear O0 S0
    rename World => wr
    obtain ⟨j, a, c, rfl, rfl, hj, O, S⟩ := hrel
    obtain ⟨i, hi⟩ : ∃ z : Int, (j : Int) = z := ⟨_, rfl⟩
    rw [hi]
    have i0 : 0 ≤ i := by omega
    by_cases hj2 : j < 2
    · have i1 : i < 2 := by omega
      have hcell : ∃ n : Int, wr.cell? ⟨bt, i.toNat, none⟩ = some (.int .u64 n) ∧ n.toNat = (if j = 0 then v.toNat else r.toNat) ∧ 0 ≤ n ∧ n ≤ 18446744073709551615 := by
        have R := RT.out.below S.out RT.out.lt
        match j, hj2 with
        | 0, _ => exact ⟨v, by rw [show i.toNat = 0 by omega]; exact R.cell 0 rfl, rfl, v0, v1⟩
        | 1, _ => exact ⟨r, by rw [show i.toNat = 1 by omega]; exact R.cell 1 rfl, rfl, r0, r1⟩
      obtain ⟨n, cn, hn, n0, n1⟩ := hcell
      have hst := txt_succ v.toNat r.toNat hj2
      rw [← hn] at hst
      have hTl := txt_len v.toNat r.toNat (show j ≤ 2 by omega)
      have hTl2 := txt_len v.toNat r.toNat (show j + 1 ≤ 2 by omega)
      obtain ⟨A, hA⟩ : ∃ l, txt v.toNat r.toNat j = l := ⟨_, rfl⟩
      rw [hA] at hst hTl O
      have O1 : Hid (OwnB wr w8.heap.size (.slice a (8 * j + 0) c) (A ++ (Obol.be8 n.toNat).take 0)) := Lib.hid (by rw [List.take_zero, List.append_nil]; exact O.out)
      replace hst := Lib.hid hst
      replace hA := Lib.hid hA
      replace hi := Lib.hid hi
      replace hn := Lib.hid hn
      replace hTl := Lib.hid hTl
      replace hTl2 := Lib.hid hTl2
      clear O
      go_wp2_with fail
      go_loopw [12, 15] (fun q1 q2 wr => ∃ (k : Nat) (a : Option Addr) (c : Nat), q1 = .slice a (8 * j + k) c ∧ q2 = .int .i64 (56 - 8 * (k : Int)) ∧ k ≤ 8 ∧ Hid (OwnB wr w8.heap.size (.slice a (8 * j + k) c) (A ++ (Obol.be8 n.toNat).take k)) ∧ Hid (Below w8.heap.size w8 wr)) (fun _ q2 _ => (8 + intOf q2).toNat)
      case atStart => exact ⟨0, a, c, rfl, rfl, by omega, O1, S⟩
      case round =>
        clear O1 S cn
        rename World => wy
        obtain ⟨k, a, c, rfl, rfl, hk, O, S⟩ := hrel
        obtain ⟨x, hx⟩ : ∃ x : Int, 56 - 8 * (k : Int) = x := ⟨_, rfl⟩
        rw [hx]
        have wx : IntKind.i64.wrap (x - 8) = x - 8 := by rw [IntKind.wrap_i64]; omega
        by_cases hk8 : k < 8
        · have x0 : 0 ≤ x := by omega
          have x1 : x < 64 := by omega
          obtain ⟨y, hy⟩ : ∃ y : Int, n / 2 ^ x.toNat % 256 = y := ⟨_, rfl⟩
          have y0 : 0 ≤ y := by rw [← hy]; exact Int.emod_nonneg _ (by decide)
          have hyn : y.toNat = n.toNat / 2 ^ (56 - 8 * k) % 256 := by
            obtain ⟨N, rfl⟩ := Int.eq_ofNat_of_zero_le n0
            rw [← hy, show x.toNat = 56 - 8 * k by omega, Int.toNat_natCast]
            have e2 : ((N : Int) / 2 ^ (56 - 8 * k)) = ((N / 2 ^ (56 - 8 * k) : Nat) : Int) := by rw [Int.natCast_ediv, Int.natCast_pow]; rfl
            rw [e2]; omega
          have hAk : (A ++ (Obol.be8 n.toNat).take k).length = 8 * j + k := by rw [List.length_append, hTl.out, List.length_take, (be8_b8 _).len]; omega
          obtain ⟨v', w5, hap, hO', hb', hg', -⟩ := append_ownB (wy.alloc (.cells #[.int .u8 y] 5)) w8.heap.size _ _ [y.toNat] (O.out.below (bAlloc (Below.refl _ wy) _)) ⟨wy.heap.size, 0, none⟩ 1 1 rfl (newsB1 wy y y0) (by rw [hAk]; simp; omega) (by rw [World.size_alloc]; have := S.out.size; omega)
          obtain ⟨a3, c3, rfl⟩ := own_any hO'
          have hll2 : (A ++ (Obol.be8 n.toNat).take k ++ [y.toNat]).length = 8 * j + (k + 1) := by rw [List.length_append, hAk]; rfl
          rw [hll2] at hap hO'
          have er : A ++ (Obol.be8 n.toNat).take k ++ [y.toNat] = A ++ (Obol.be8 n.toNat).take (k + 1) := by rw [hyn, be8_take n.toNat hk8, List.append_assoc]
          rw [er] at hO'
          have ON := Lib.hid hO'
          have BN := Lib.hid (S.out.trans ((bAlloc (Below.refl _ wy) (.cells #[.int .u8 y] 5)).mono S.out.size |>.trans hb'))
          replace hyn := Lib.hid hyn
          replace hx := Lib.hid hx
          clear hO' hb' hg' er hll2 hAk O S
          go_wp2_with (at_builtin; refine wpList_appended rfl _ _ _ _ rfl _ _ _ rfl rfl hap ?_)
          go_roundw
          case rel => exact ⟨k + 1, a3, c3, rfl, by have := hx.out; simp; omega, by omega, ON, BN⟩
          case measure => simp [intOf]; omega
        · obtain rfl : k = 8 := by omega
          obtain rfl : x = -8 := by omega
          clear hx
          have e8 : 8 * j + 8 = 8 * (j + 1) := by omega
          have OF : Hid (OwnB wy w8.heap.size (.slice a (8 * (j + 1)) c) (txt v.toNat r.toNat (j + 1))) := Lib.hid (by
            have h := O.out
            rw [List.take_of_length_le (by rw [(be8_b8 _).len]; omega), ← hst.out, e8] at h
            exact h)
          rw [e8]
          replace e8 := Lib.hid e8
          clear O wx
          go_wp2_with fail
          go_roundw
          case rel => exact ⟨j + 1, a, c, rfl, by have := hi.out; simp; omega, by omega, OF, S⟩
          case measure => simp [intOf]; omega
    · obtain rfl : j = 2 := by omega
      obtain rfl : i = 2 := by omega
      clear hi
      have O9 : Hid (OwnB wr w8.heap.size (.slice a 16 c) (noteT v.toNat r.toNat)) := O
      have H9 := Lib.hid (HR.sub (qs := [(b3, #[.int .u64 ex, .int .u64 ey, .slice none 0 0], 44), (b2, #[.int .u64 0, .int .u64 0, .slice none 0 0], 44), (b1, #[.int .u64 ow, .int .u64 px, .int .u64 py], 31), (b0, #[.int .u64 v, .int .u64 o, .int .u64 r], 41)]) (H8.out.next S.out) (by simp))
      have OK9 := Lib.hid (OK8.out.below S.out)
      clear O OK8 H8 RT S
      go_upto_region 19 with fail
      have H10 := Lib.hid (H9.out.new (u8s z12) 5)
      have hba : Below wr.heap.size wr (wr.alloc (.cells (u8s z12) 5)) := bAlloc (Below.refl _ _) _
      have OT := Lib.hid (O9.out.below hba)
      have OK10 := OK9.out.below hba
      obtain ⟨hk1, hk2, hk3⟩ : gk < (wr.alloc (.cells (u8s z12) 5)).heap.size ∧ BL (wr.alloc (.cells (u8s z12) 5)) gk 0 K ∧ 32 ≤ ck := ⟨own_lt OK10, own_blz OK10 hK8.out.len, by have := (own_cap OK10).1; rw [hK8.out.len] at this; exact this⟩
      have hbz := (show Row (wr.alloc (.cells (u8s z12) 5)) wr.heap.size (u8s z12) 5 from Row.new _ _ _)
      have cS := Lib.hid (qSeal gk 0 ck wr.heap.size 0 12 K z12 hK8.out hz12.out hk3 (Nat.le_refl _) (.slice none 0 0) [] a 16 c (noteT v.toNat r.toNat) (noteT_b8 _ _) (by omega) (wr.alloc (.cells (u8s z12) 5)) hk1 hbz.lt hk2 hbz.bl (seg_nil _ _) (OwnB.sl OT.out).2)
      clear hk1 hk2 hk3 hbz hba OK10 O9 H9
      go_wp2_with fail
      refine cS.out.mono ?_
      rintro e' w11 ⟨gs, cs, rfl, hO11, hb11⟩
      have H11 := Lib.hid (HR.sub (qs := [(b3, #[.int .u64 ex, .int .u64 ey, .slice none 0 0], 44), (b2, #[.int .u64 0, .int .u64 0, .slice none 0 0], 44), (b1, #[.int .u64 ow, .int .u64 px, .int .u64 py], 31), (b0, #[.int .u64 v, .int .u64 o, .int .u64 r], 41)]) (H10.out.next hb11) (by simp))
      have hgs := own_ge hO11
      have h3s := H10.out.lt (b := b3) (cs := #[.int .u64 ex, .int .u64 ey, .slice none 0 0]) (t := 44) (by simp)
      have h2s := H10.out.lt (b := b2) (cs := #[.int .u64 0, .int .u64 0, .slice none 0 0]) (t := 44) (by simp)
      have hw11 := H10.out.2.size
      have O11 := Lib.hid (hO11.base hw11)
      clear hO11 hb11 cS H10 OT OK9
      have c_b3_0 := H11.out.cell (b := b3) (cs := #[.int .u64 ex, .int .u64 ey, .slice none 0 0]) (t := 44) (by simp) 0 rfl
      have c_b3_1 := H11.out.cell (b := b3) (cs := #[.int .u64 ex, .int .u64 ey, .slice none 0 0]) (t := 44) (by simp) 1 rfl
      have c_b3_2 := H11.out.cell (b := b3) (cs := #[.int .u64 ex, .int .u64 ey, .slice none 0 0]) (t := 44) (by simp) 2 rfl
      have f_b3_0 := H11.out.free (b := b3) (cs := #[.int .u64 ex, .int .u64 ey, .slice none 0 0]) (t := 44) (by simp) 0
      have f_b3_1 := H11.out.free (b := b3) (cs := #[.int .u64 ex, .int .u64 ey, .slice none 0 0]) (t := 44) (by simp) 1
      have f_b3_2 := H11.out.free (b := b3) (cs := #[.int .u64 ex, .int .u64 ey, .slice none 0 0]) (t := 44) (by simp) 2
      have H12 := Lib.hid (H11.out.put (D := b3) (by have := ho3.out; simp; omega) (by have := ho3.out; omega) 2 (.slice (some ⟨gs, 0, none⟩) 32 cs))
      have O12 := Lib.hid (own_other (b := b3) (o := 2) (u := .slice (some ⟨gs, 0, none⟩) 32 cs) O11.out (by omega))
      have H13 : Hid (HR w (w11.setCell ⟨b3, 2, none⟩ (.slice (some ⟨gs, 0, none⟩) 32 cs)) [(b3, #[.int .u64 ex, .int .u64 ey, .slice (some ⟨gs, 0, none⟩) 32 cs], 44), (b2, #[.int .u64 0, .int .u64 0, .slice none 0 0], 44), (b1, #[.int .u64 ow, .int .u64 px, .int .u64 py], 31), (b0, #[.int .u64 v, .int .u64 o, .int .u64 r], 41)]) := H12
      clear H12 H11 O11
      go_upto_region 20 with fail
      clear c_b3_0 c_b3_1 c_b3_2 f_b3_0 f_b3_1 f_b3_2
      generalize w11.setCell ⟨b3, 2, none⟩ (.slice (some ⟨gs, 0, none⟩) 32 cs) = w13 at H13 O12 ⊢
      have c_b3_0 := H13.out.cell (b := b3) (cs := #[.int .u64 ex, .int .u64 ey, .slice (some ⟨gs, 0, none⟩) 32 cs]) (t := 44) (by simp) 0 rfl
      have c_b3_1 := H13.out.cell (b := b3) (cs := #[.int .u64 ex, .int .u64 ey, .slice (some ⟨gs, 0, none⟩) 32 cs]) (t := 44) (by simp) 1 rfl
      have c_b3_2 := H13.out.cell (b := b3) (cs := #[.int .u64 ex, .int .u64 ey, .slice (some ⟨gs, 0, none⟩) 32 cs]) (t := 44) (by simp) 2 rfl
      have c_b2_0 := H13.out.cell (b := b2) (cs := #[.int .u64 0, .int .u64 0, .slice none 0 0]) (t := 44) (by simp) 0 rfl
      have c_b2_1 := H13.out.cell (b := b2) (cs := #[.int .u64 0, .int .u64 0, .slice none 0 0]) (t := 44) (by simp) 1 rfl
      have c_b2_2 := H13.out.cell (b := b2) (cs := #[.int .u64 0, .int .u64 0, .slice none 0 0]) (t := 44) (by simp) 2 rfl
      have f_b2_0 := H13.out.free (b := b2) (cs := #[.int .u64 0, .int .u64 0, .slice none 0 0]) (t := 44) (by simp) 0
      have f_b2_1 := H13.out.free (b := b2) (cs := #[.int .u64 0, .int .u64 0, .slice none 0 0]) (t := 44) (by simp) 1
      have f_b2_2 := H13.out.free (b := b2) (cs := #[.int .u64 0, .int .u64 0, .slice none 0 0]) (t := 44) (by simp) 2
      have hR := (H13.out.row (b := b2) (cs := #[.int .u64 0, .int .u64 0, .slice none 0 0]) (t := 44) (by simp)).set3 (v0 := .int .u64 ex) (v1 := .int .u64 ey) (v2 := .slice (some ⟨gs, 0, none⟩) 32 cs)
      have s0 := hR.cell 0 rfl
      have s1 := hR.cell 1 rfl
      have s2 := hR.cell 2 rfl
      have B4 := Lib.hid (bSet (bSet (bSet H13.out.2 (b := b2) (o := 0) (u := .int .u64 ex) (by have := ho.out; omega)) (b := b2) (o := 1) (u := .int .u64 ey) (by have := ho.out; omega)) (b := b2) (o := 2) (u := .slice (some ⟨gs, 0, none⟩) 32 cs) (by have := ho.out; omega))
      have O13 := Lib.hid (own_other (b := b2) (o := 2) (u := .slice (some ⟨gs, 0, none⟩) 32 cs) (own_other (b := b2) (o := 1) (u := .int .u64 ey) (own_other (b := b2) (o := 0) (u := .int .u64 ex) O12.out (by omega)) (by omega)) (by omega))
      have hex0 := Lib.hid ex0
      clear hR
      go_wp2_with fail
      refine bodyPost_ret (v := .tuple #[.agg #[.int .u64 ex, .int .u64 ey, .slice (some ⟨gs, 0, none⟩) 32 cs], .nilIface]) (by simp [results, Tryd.results19, go_sem, s0, s1, s2]) rfl ⟨gs, cs, ex, ey, rfl, ex0, ey0, exR, eyR, rfl, rfl, O13.out, B4.out⟩

end Go.Proofs.YtallfmiikjmgaaaDoor
