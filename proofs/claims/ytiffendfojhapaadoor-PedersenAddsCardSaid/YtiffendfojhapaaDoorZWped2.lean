import Derived.Test.YtiffendfojhapaaDoorZPedp
import Derived.Test.YtiffendfojhapaaDoorZWup9
set_option linter.unusedVariables false
set_option linter.unusedSimpArgs false
/- Walks: package pedersen: openings; a commitment by the document; the head of the statements of layer 8. -/
namespace Go.Proofs.YtiffendfojhapaaDoor
open Go.RowKit

theorem u64_take {n : Nat} {L : List Nat} (H : U64 n L) {k : Nat} (h : k ≤ n) : U64 k (L.take k) := ⟨by rw [List.length_take, H.len]; omega, fun i => by
  rw [List.getD_eq_getElem?_getD, List.getElem?_take]
  split
  · rw [← List.getD_eq_getElem?_getD]; exact H.lt i
  · decide⟩
theorem slu_take {base : Nat} {w : World} {ao : Option Addr} {cap : Nat} {L : List Nat} (h : SlU base w ao cap L) {k : Nat} (hk : k ≤ L.length) : SlU base w ao cap (L.take k) :=
  ⟨by rw [List.length_take]; have := h.le; omega, h.cap, (fun e => by have := h.no e; rw [List.length_take]; omega), fun h0 => by
    rw [List.length_take] at h0
    obtain ⟨b, o, h1, h2, h3⟩ := h.bl (by omega)
    refine ⟨b, o, h1, h2, fun i hi => ?_⟩
    rw [List.length_take] at hi
    rw [h3 i (by omega), List.getD_eq_getElem?_getD, List.getD_eq_getElem?_getD, List.getElem?_take, if_pos (by omega)]⟩

theorem pCommitLong (x : Int) (ao : Option Addr) (len cap : Nat) (hl : 16 < len) (hl2 : len ≤ 9223372036854775807) (w : World) :
    Calls Tryd.prog 36 #[.slice ao len cap, .int .u64 x] w fun e w' => e = .returned (.tuple #[edV 0 0, errC 5]) ∧ Below w.heap.size w w' := by
  have hli : (16 : Int) < (len : Int) := by omega
  have hlj : (len : Int) ≤ 9223372036854775807 := by omega
  go_enter Tryd.func36, Tryd.ntmps36
  go_wp2_with fail
  refine bodyPost_ret (v := .tuple #[edV 0 0, errC 5]) (by simp [results, Tryd.results36, go_sem]) rfl ⟨rfl, ?_⟩
  repeat (first | exact Below.refl _ _ | assumption | apply bDrewN | apply bDrew | apply bAlloc | refine bSet ?_ (by omega) | refine bThen ?_ (by assumption) (by simp <;> omega))
theorem pCommitY (x : Int) (x0 : 0 ≤ x) (x1 : x ≤ 18446744073709551615) (ao : Option Addr) (len cap : Nat) (V : List Nat) (HV0 : U64 len V) (hl : len ≤ 16) (q : Obol.Pt) (hq : comN x.toNat V len = some q) (w : World) (hS0 : SlU w.heap.size w ao cap V) (hG0 : RowsAt w) :
    Calls Tryd.prog 36 #[.slice ao len cap, .int .u64 x] w fun e w' => e = .returned (.tuple #[ptV q, .nilIface]) ∧ Below w.heap.size w w' := by
  have h := pCommit x x0 x1 ao len cap V HV0 hl w hS0 hG0
  rw [hq] at h
  exact h
theorem pCommitN (x : Int) (x0 : 0 ≤ x) (x1 : x ≤ 18446744073709551615) (ao : Option Addr) (len cap : Nat) (V : List Nat) (HV0 : U64 len V) (hl : len ≤ 16) (hq : comN x.toNat V len = none) (w : World) (hS0 : SlU w.heap.size w ao cap V) (hG0 : RowsAt w) :
    Calls Tryd.prog 36 #[.slice ao len cap, .int .u64 x] w fun e w' => e = .returned (.tuple #[edV 0 0, errC 2]) ∧ Below w.heap.size w w' := by
  have h := pCommit x x0 x1 ao len cap V HV0 hl w hS0 hG0
  rw [hq] at h
  exact h
theorem pOpensY (cx cy x : Int) (ao : Option Addr) (len cap : Nat) (x0 : 0 ≤ x) (x1 : x ≤ 18446744073709551615) (V : List Nat) (HV0 : U64 len V) (hl : len ≤ 16) (q : Obol.Pt) (hq : comN x.toNat V len = some q) (hv : ptV q = edV cx cy) (w : World) (hS0 : SlU w.heap.size w ao cap V) (hG0 : RowsAt w) :
    Calls Tryd.prog 37 #[edV cx cy, .slice ao len cap, .int .u64 x] w fun e w' => e = .returned (.bool true) ∧ Below w.heap.size w w' := by
  have hC := Lib.hid (fun W (hw : Below w.heap.size w W) => pCommitY x x0 x1 ao len cap V HV0 hl q hq W (hS0.at hw) (hG0.below hw))
  rw [hv] at hC
  clear hv hq hS0 hG0
  go_enter Tryd.func37, Tryd.ntmps37
  go_wp2_with fail
  have H0 := Lib.hid ((HR.refl w).new #[.int .u64 cx, .int .u64 cy] 37)
  generalize w.alloc (.cells #[.int .u64 cx, .int .u64 cy] 37) = w0 at H0 ⊢
  generalize w.heap.size = b3 at H0 ⊢
  refine (hC.out _ H0.out.2).mono ?_
  rintro e w1 ⟨rfl, hb1⟩
  have H1 := Lib.hid ((H0.out.next hb1).new #[.int .u64 cx, .int .u64 cy] 37)
  clear hb1 H0
  go_upto_region 2 with fail
  generalize w1.alloc (.cells #[.int .u64 cx, .int .u64 cy] 37) = w2 at H1 ⊢
  generalize w1.heap.size = b7 at H1 ⊢
  have c_b7_0 := H1.out.cell (b := b7) (cs := #[.int .u64 cx, .int .u64 cy]) (t := 37) (by simp) 0 rfl
  have c_b7_1 := H1.out.cell (b := b7) (cs := #[.int .u64 cx, .int .u64 cy]) (t := 37) (by simp) 1 rfl
  have c_b3_0 := H1.out.cell (b := b3) (cs := #[.int .u64 cx, .int .u64 cy]) (t := 37) (by simp) 0 rfl
  have c_b3_1 := H1.out.cell (b := b3) (cs := #[.int .u64 cx, .int .u64 cy]) (t := 37) (by simp) 1 rfl
  go_wp2_with fail
  go_ret
  exact ⟨rfl, H1.out.2⟩
theorem pOpensX (cx cy x : Int) (ao : Option Addr) (len cap : Nat) (x0 : 0 ≤ x) (x1 : x ≤ 18446744073709551615) (V : List Nat) (HV0 : U64 len V) (hl : len ≤ 16) (q : Obol.Pt) (hq : comN x.toNat V len = some q) (qx qy : Int) (hv : ptV q = edV qx qy) (hne : ¬ (qx = cx ∧ qy = cy)) (w : World) (hS0 : SlU w.heap.size w ao cap V) (hG0 : RowsAt w) :
    Calls Tryd.prog 37 #[edV cx cy, .slice ao len cap, .int .u64 x] w fun e w' => e = .returned (.bool false) ∧ Below w.heap.size w w' := by
  have hC := Lib.hid (fun W (hw : Below w.heap.size w W) => pCommitY x x0 x1 ao len cap V HV0 hl q hq W (hS0.at hw) (hG0.below hw))
  rw [hv] at hC
  clear hv hq hS0 hG0
  by_cases h1 : qx = cx
  · have h2 : ¬ qy = cy := fun h => hne ⟨h1, h⟩
    subst h1
    clear hne
    go_enter Tryd.func37, Tryd.ntmps37
    go_wp2_with fail
    have H0 := Lib.hid ((HR.refl w).new #[.int .u64 qx, .int .u64 cy] 37)
    generalize w.alloc (.cells #[.int .u64 qx, .int .u64 cy] 37) = w0 at H0 ⊢
    generalize w.heap.size = b3 at H0 ⊢
    refine (hC.out _ H0.out.2).mono ?_
    rintro e w1 ⟨rfl, hb1⟩
    have H1 := Lib.hid ((H0.out.next hb1).new #[.int .u64 qx, .int .u64 qy] 37)
    clear hb1 H0
    go_upto_region 2 with fail
    generalize w1.alloc (.cells #[.int .u64 qx, .int .u64 qy] 37) = w2 at H1 ⊢
    generalize w1.heap.size = b7 at H1 ⊢
    have c_b7_0 := H1.out.cell (b := b7) (cs := #[.int .u64 qx, .int .u64 qy]) (t := 37) (by simp) 0 rfl
    have c_b7_1 := H1.out.cell (b := b7) (cs := #[.int .u64 qx, .int .u64 qy]) (t := 37) (by simp) 1 rfl
    have c_b3_0 := H1.out.cell (b := b3) (cs := #[.int .u64 qx, .int .u64 cy]) (t := 37) (by simp) 0 rfl
    have c_b3_1 := H1.out.cell (b := b3) (cs := #[.int .u64 qx, .int .u64 cy]) (t := 37) (by simp) 1 rfl
    go_wp2_with fail
    go_ret
    exact ⟨rfl, H1.out.2⟩
  · clear hne
    go_enter Tryd.func37, Tryd.ntmps37
    go_wp2_with fail
    have H0 := Lib.hid ((HR.refl w).new #[.int .u64 cx, .int .u64 cy] 37)
    generalize w.alloc (.cells #[.int .u64 cx, .int .u64 cy] 37) = w0 at H0 ⊢
    generalize w.heap.size = b3 at H0 ⊢
    refine (hC.out _ H0.out.2).mono ?_
    rintro e w1 ⟨rfl, hb1⟩
    have H1 := Lib.hid ((H0.out.next hb1).new #[.int .u64 qx, .int .u64 qy] 37)
    clear hb1 H0
    go_upto_region 2 with fail
    generalize w1.alloc (.cells #[.int .u64 qx, .int .u64 qy] 37) = w2 at H1 ⊢
    generalize w1.heap.size = b7 at H1 ⊢
    have c_b7_0 := H1.out.cell (b := b7) (cs := #[.int .u64 qx, .int .u64 qy]) (t := 37) (by simp) 0 rfl
    have c_b7_1 := H1.out.cell (b := b7) (cs := #[.int .u64 qx, .int .u64 qy]) (t := 37) (by simp) 1 rfl
    have c_b3_0 := H1.out.cell (b := b3) (cs := #[.int .u64 cx, .int .u64 cy]) (t := 37) (by simp) 0 rfl
    have c_b3_1 := H1.out.cell (b := b3) (cs := #[.int .u64 cx, .int .u64 cy]) (t := 37) (by simp) 1 rfl
    go_wp2_with fail
    go_ret
    exact ⟨rfl, H1.out.2⟩
theorem pOpensN (cx cy x : Int) (ao : Option Addr) (len cap : Nat) (x0 : 0 ≤ x) (x1 : x ≤ 18446744073709551615) (V : List Nat) (HV0 : U64 len V) (hl : len ≤ 16) (hq : comN x.toNat V len = none) (w : World) (hS0 : SlU w.heap.size w ao cap V) (hG0 : RowsAt w) :
    Calls Tryd.prog 37 #[edV cx cy, .slice ao len cap, .int .u64 x] w fun e w' => e = .returned (.bool false) ∧ Below w.heap.size w w' := by
  have hC := Lib.hid (fun W (hw : Below w.heap.size w W) => pCommitN x x0 x1 ao len cap V HV0 hl hq W (hS0.at hw) (hG0.below hw))
  clear hq hS0 hG0
  go_enter Tryd.func37, Tryd.ntmps37
  go_wp2_with fail
  have H0 := Lib.hid ((HR.refl w).new #[.int .u64 cx, .int .u64 cy] 37)
  generalize w.alloc (.cells #[.int .u64 cx, .int .u64 cy] 37) = w0 at H0 ⊢
  generalize w.heap.size = b3 at H0 ⊢
  refine (hC.out _ H0.out.2).mono ?_
  rintro e w1 ⟨rfl, hb1⟩
  have H1 := Lib.hid ((H0.out.next hb1).new #[.int .u64 0, .int .u64 0] 37)
  clear hb1 H0
  go_upto_region 2 with fail
  generalize w1.alloc (.cells #[.int .u64 0, .int .u64 0] 37) = w2 at H1 ⊢
  generalize w1.heap.size = b7 at H1 ⊢
  have c_b7_0 := H1.out.cell (b := b7) (cs := #[.int .u64 0, .int .u64 0]) (t := 37) (by simp) 0 rfl
  have c_b7_1 := H1.out.cell (b := b7) (cs := #[.int .u64 0, .int .u64 0]) (t := 37) (by simp) 1 rfl
  have c_b3_0 := H1.out.cell (b := b3) (cs := #[.int .u64 cx, .int .u64 cy]) (t := 37) (by simp) 0 rfl
  have c_b3_1 := H1.out.cell (b := b3) (cs := #[.int .u64 cx, .int .u64 cy]) (t := 37) (by simp) 1 rfl
  go_wp2_with fail
  go_ret
  exact ⟨rfl, H1.out.2⟩
theorem pOpensL (cx cy x : Int) (ao : Option Addr) (len cap : Nat) (hl : 16 < len) (hl2 : len ≤ 9223372036854775807) (w : World) :
    Calls Tryd.prog 37 #[edV cx cy, .slice ao len cap, .int .u64 x] w fun e w' => e = .returned (.bool false) ∧ Below w.heap.size w w' := by
  have hC := Lib.hid (fun W (_ : Below w.heap.size w W) => pCommitLong x ao len cap hl hl2 W)
  go_enter Tryd.func37, Tryd.ntmps37
  go_wp2_with fail
  have H0 := Lib.hid ((HR.refl w).new #[.int .u64 cx, .int .u64 cy] 37)
  generalize w.alloc (.cells #[.int .u64 cx, .int .u64 cy] 37) = w0 at H0 ⊢
  generalize w.heap.size = b3 at H0 ⊢
  refine (hC.out _ H0.out.2).mono ?_
  rintro e w1 ⟨rfl, hb1⟩
  have H1 := Lib.hid ((H0.out.next hb1).new #[.int .u64 0, .int .u64 0] 37)
  clear hb1 H0
  go_upto_region 2 with fail
  generalize w1.alloc (.cells #[.int .u64 0, .int .u64 0] 37) = w2 at H1 ⊢
  generalize w1.heap.size = b7 at H1 ⊢
  have c_b7_0 := H1.out.cell (b := b7) (cs := #[.int .u64 0, .int .u64 0]) (t := 37) (by simp) 0 rfl
  have c_b7_1 := H1.out.cell (b := b7) (cs := #[.int .u64 0, .int .u64 0]) (t := 37) (by simp) 1 rfl
  have c_b3_0 := H1.out.cell (b := b3) (cs := #[.int .u64 cx, .int .u64 cy]) (t := 37) (by simp) 0 rfl
  have c_b3_1 := H1.out.cell (b := b3) (cs := #[.int .u64 cx, .int .u64 cy]) (t := 37) (by simp) 1 rfl
  go_wp2_with fail
  go_ret
  exact ⟨rfl, H1.out.2⟩

noncomputable def comP (x : Nat) (V : List Nat) : Nat → Option Obol.Pt
  | 0 => some Obol.Pnt.zero
  | j + 1 => comN x V j
theorem comP_next {x v : Nat} {V : List Nat} {i : Nat} {o b : Obol.Pt} (h : comP x V i = some o) (hb : baseP i = some b) (hv : v = if i = 0 then x else V.getD (i - 1) 0) : comP x V (i + 1) = some (o.add (Obol.Pnt.smul (v % 72057593894066549) b)) := by
  cases i with
  | zero =>
    obtain rfl := Option.some.inj h
    rw [Obol.Pnt.zero_add, hv]
    exact com_first (V := V) hb
  | succ j =>
    rw [hv]
    exact com_next h hb
theorem comP_stop {x : Nat} {V : List Nat} {i : Nat} {o : Obol.Pt} (h : comP x V i = some o) (hb : baseP i = none) : comP x V (i + 1) = none := by
  cases i with
  | zero => exact com_first_no (V := V) hb
  | succ j => exact com_stop h hb
theorem lFindY (n : Int) (n0 : 0 ≤ n) (n1 : n ≤ 18446744073709551615) {q : Obol.Pt} (h : baseP n.toNat = some q) (w : World) (hG : RowsAt w) :
    Calls Tryd.prog 61 #[.string pedS, .int .u64 n] w fun e w' => e = .returned (.tuple #[ptV q, .nilIface]) ∧ Below w.heap.size w w' := by
  have hF := eFindD pedS (by decide) n n0 n1 w hG
  rw [← baseP_eq, h] at hF
  exact hF
theorem lFindN (n : Int) (n0 : 0 ≤ n) (n1 : n ≤ 18446744073709551615) (h : baseP n.toNat = none) (w : World) (hG : RowsAt w) :
    Calls Tryd.prog 61 #[.string pedS, .int .u64 n] w fun e w' => e = .returned (.tuple #[edV 0 0, errC 2]) ∧ Below w.heap.size w w' := by
  have hF := eFindD pedS (by decide) n n0 n1 w hG
  rw [← baseP_eq, h] at hF
  exact hF
noncomputable def lcomV : Option Obol.Pt → Value
  | some q => .tuple #[ptV q, .bool true]
  | none => .tuple #[edV 0 0, .bool false]
set_option maxRecDepth 8000 in
set_option maxHeartbeats 4000000 in
theorem lCommit (x : Int) (x0 : 0 ≤ x) (x1 : x ≤ 18446744073709551615) (ao : Option Addr) (len cap : Nat) (V : List Nat) (HV0 : U64 len V) (hl : len ≤ 16) (w : World) (hS0 : SlU w.heap.size w ao cap V) (hG0 : RowsAt w) :
    Calls Tryd.prog 38 #[.slice ao len cap, .int .u64 x] w fun e w' => e = .returned (lcomV (comN x.toNat V len)) ∧ Below w.heap.size w w' := by
  have HV := Lib.hid HV0
  have hS := Lib.hid hS0
  have hG := Lib.hid hG0
  have hli : (len : Int) ≤ 16 := by omega
  obtain ⟨R, hR⟩ : ∃ R, comN x.toNat V len = R := ⟨_, rfl⟩
  rw [hR]
  replace hR := Lib.hid hR
  clear hS0 hG0 HV0
  go_enter Tryd.func38, Tryd.ntmps38
  go_wp2_with fail
  have H0 := Lib.hid (((HR.refl w).new #[.int .u64 0, .int .u64 0] 37).new #[.int .u64 0, .int .u64 1] 37)
  rw [World.size_alloc] at H0
  generalize (w.alloc (.cells #[.int .u64 0, .int .u64 0] 37)).alloc (.cells #[.int .u64 0, .int .u64 1] 37) = w0 at H0 ⊢
  obtain ⟨b6, hb6⟩ : ∃ b, w.heap.size + 1 = b := ⟨_, rfl⟩
  rw [hb6] at H0 ⊢
  obtain ⟨b4, hb4⟩ : ∃ b, w.heap.size = b := ⟨_, rfl⟩
  have hb46 : b4 < b6 := by omega
  replace hb6 := Lib.hid hb6
  rw [hb4] at H0 ⊢
  go_loopw [7] (fun q1 wr => ∃ (i : Nat) (o : Obol.Pt) (ox oy : Int), q1 = .int .i64 (i : Int) ∧ i ≤ len + 1 ∧ Hid (comP x.toNat V i = some o) ∧ Hid (ptV o = edV ox oy) ∧ Hid (HR w wr [(b6, #[.int .u64 ox, .int .u64 oy], 37), (b4, #[.int .u64 0, .int .u64 0], 37)])) (fun q1 _ => (len + 1 - intOf q1).toNat)
  case atStart => exact ⟨0, Obol.Pnt.zero, 0, 1, rfl, Nat.zero_le _, Lib.hid rfl, Lib.hid zeroV, H0⟩
  case round =>
    clear H0
    obtain ⟨j, o, ox, oy, rfl, hj, hC, hvo, H⟩ := hrel
    obtain ⟨i, hi⟩ : ∃ i : Int, (j : Int) = i := ⟨_, rfl⟩
    rw [hi]
    have i0 : 0 ≤ i := by omega
    by_cases hjl : j < len + 1
    · have i1 : i ≤ (len : Int) := by omega
      have hu1 : IntKind.u64.wrap i = i := by rw [IntKind.wrap_u64]; omega
      by_cases hz : j = 0
      · obtain rfl : i = 0 := by omega
        have hvn := Lib.hid (show x.toNat = if j = 0 then x.toNat else V.getD (j - 1) 0 by rw [if_pos hz])
        replace hz := Lib.hid hz
        have htv : x.tmod 72057593894066549 = x % 72057593894066549 := Int.tmod_eq_emod_of_nonneg x0
        cases hBj : baseP j with
        | none =>
          have hRn : R = none := by rw [← hR.out]; exact com_none (j := j) (comP_stop hC.out hBj) len (by omega)
          subst hRn
          have cB := Lib.hid (fun W (hw : Below w.heap.size w W) => lFindN 0 (by omega) (by omega) (by rw [show (0 : Int).toNat = j by omega]; exact hBj) W (hG.out.below hw))
          clear hBj hC
          go_wp2_with fail
          refine (cB.out _ H.out.2).mono ?_
          rintro e w5 ⟨rfl, hb5⟩
          have H5 := Lib.hid ((H.out.next hb5).alloc (.cells #[.int .u64 0, .int .u64 0] 37))
          go_upto_region 9 with fail
          generalize w5.alloc (.cells #[.int .u64 0, .int .u64 0] 37) = w6 at H5 ⊢
          have c_b6_0 := H5.out.cell (b := b6) (cs := #[.int .u64 ox, .int .u64 oy]) (t := 37) (by simp) 0 rfl
          have c_b6_1 := H5.out.cell (b := b6) (cs := #[.int .u64 ox, .int .u64 oy]) (t := 37) (by simp) 1 rfl
          have c_b4_0 := H5.out.cell (b := b4) (cs := #[.int .u64 0, .int .u64 0]) (t := 37) (by simp) 0 rfl
          have c_b4_1 := H5.out.cell (b := b4) (cs := #[.int .u64 0, .int .u64 0]) (t := 37) (by simp) 1 rfl
          have f_b4_0 := H5.out.free (b := b4) (cs := #[.int .u64 0, .int .u64 0]) (t := 37) (by simp) 0
          have f_b4_1 := H5.out.free (b := b4) (cs := #[.int .u64 0, .int .u64 0]) (t := 37) (by simp) 1
          go_wp2_with fail
          refine bodyPost_ret (v := .tuple #[edV 0 0, .bool false]) (by simp [results, Tryd.results38, go_sem, c_b4_0, c_b4_1]) rfl ⟨rfl, ?_⟩
          rw [← hb4]
          exact bSet (bSet H5.out.2 (by omega)) (by omega)
        | some q =>
          have cB := fun W (hw : Below w.heap.size w W) => lFindY 0 (by omega) (by omega) (q := q) (by rw [show (0 : Int).toNat = j by omega]; exact hBj) W (hG.out.below hw)
          have hCn := comP_next hC.out hBj hvn.out
          obtain ⟨qx, qy, qx0, qy0, -, -, hvq, hnq⟩ := coordsN q
          have cM := fun w => rTimes qx qy (x % 72057593894066549) qx0 qy0 (by omega) (by omega) q hvq w
          rw [show (x % 72057593894066549).toNat = x.toNat % 72057593894066549 by omega] at cM
          generalize Obol.Pnt.smul (x.toNat % 72057593894066549) q = m at cM hCn
          obtain ⟨mx, my, mx0, my0, -, -, hvm, hnm⟩ := coordsN m
          have cA := fun w => rSum ox oy mx my (pt_pos hvo.out).1 (pt_pos hvo.out).2 mx0 my0 o m hvo.out hvm w
          generalize o.add m = o' at cA hCn
          obtain ⟨sx, sy, -, -, -, -, hvs, -⟩ := coordsN o'
          rw [hvs] at cA
          rw [hvm] at cM
          rw [hvq] at cB
          replace cM := Lib.hid cM
          replace cA := Lib.hid cA
          replace cB := Lib.hid cB
          replace hCn := Lib.hid hCn
          replace hvs := Lib.hid hvs
          clear hvm hnm hvq hnq qx0 qy0 mx0 my0 hBj hC hvo
          go_wp2_with fail
          refine (cB.out _ H.out.2).mono ?_
          rintro e w5 ⟨rfl, hb5⟩
          have H5 := Lib.hid ((H.out.next hb5).new #[.int .u64 qx, .int .u64 qy] 37)
          have hl5 : b6 < w5.heap.size := by have := hb5.size; have := H.out.lt (b := b6) (cs := #[.int .u64 ox, .int .u64 oy]) (t := 37) (by simp); omega
          go_upto_region 9 with fail
          generalize w5.alloc (.cells #[.int .u64 qx, .int .u64 qy] 37) = w6 at H5 ⊢
          generalize w5.heap.size = b9 at H5 hl5 ⊢
          replace H5 := Lib.hid (HR.sub (qs := [(b6, #[.int .u64 ox, .int .u64 oy], 37), (b9, #[.int .u64 qx, .int .u64 qy], 37), (b4, #[.int .u64 0, .int .u64 0], 37)]) H5.out (by simp))
          go_wp2_with fail
          have H5t := Lib.hid (HR.sub (qs := [(b9, #[.int .u64 qx, .int .u64 qy], 37), (b4, #[.int .u64 0, .int .u64 0], 37)]) H5.out (by simp))
          have hf0 := HR.drew H5.out
          refine wp_region_noPanic ?_
          refine wp_region_held_drew (S := fun wq => wq.cell? ⟨b9, 0, none⟩ = some (.int .u64 qx) ∧ wq.cell? ⟨b9, 1, none⟩ = some (.int .u64 qy) ∧ HR w wq [(b9, #[.int .u64 qx, .int .u64 qy], 37), (b4, #[.int .u64 0, .int .u64 0], 37)]) (by kernel_rfl) ?_ (fun hHeld => ?_)
          · have hq0 := HR.drew H5t.out
            exact ⟨HR.cell hq0 (b := b9) (cs := #[.int .u64 qx, .int .u64 qy]) (t := 37) (by simp) 0 rfl, HR.cell hq0 (b := b9) (cs := #[.int .u64 qx, .int .u64 qy]) (t := 37) (by simp) 1 rfl, hq0⟩
          refine takeH 1 (fun _ _ _ _ _ h => h) (by kernel_rfl) hHeld rfl (by kernel_rfl) (by rfl) (v := ?_) ?_ ?_
          rotate_left
          ((intro wz hz; (try dsimp only at hz); go_simp) <;> with_reducible rfl)
          try simp only [Act.put, List.setIfInBounds_toArray, List.set_cons_zero, List.set_cons_succ]
          refine takeH 2 (fun _ _ _ _ _ h => h) (by kernel_rfl) hHeld rfl (by kernel_rfl) (by rfl) (v := ?_) ?_ ?_
          rotate_left
          ((intro wz hz; (try dsimp only at hz); go_simp) <;> with_reducible rfl)
          try simp only [Act.put, List.setIfInBounds_toArray, List.set_cons_zero, List.set_cons_succ]
          refine takeH 3 (fun _ _ _ _ _ h => h) (by kernel_rfl) hHeld rfl (by kernel_rfl) (by rfl) (v := ?_) ?_ ?_
          rotate_left
          ((intro wz hz; (try dsimp only at hz); go_simp) <;> with_reducible rfl)
          try simp only [Act.put, List.setIfInBounds_toArray, List.set_cons_zero, List.set_cons_succ]
          refine wpAnyH_ready (rs := [0, 4]) (by kernel_rfl) (by simp) ?_
          refine AllReadyH.cons (i := 0) (by rw [List.getElem?_toArray]; exact rfl) (fun K hK => ?_) (AllReadyH.cons (i := 4) (by rw [List.getElem?_toArray]; exact rfl) (fun K hK => ?_) AllReadyH.nil)
          · have e0 := hf0.cell (b := b6) (cs := #[.int .u64 ox, .int .u64 oy]) (t := 37) (by simp) 0 rfl
            have e1 := hf0.cell (b := b6) (cs := #[.int .u64 ox, .int .u64 oy]) (t := 37) (by simp) 1 rfl
            go_simp
            refine hK.out _ _ ?_ (fun hHeld => ?_)
            · exact hHeld
            clear e0 e1
            clear hK K
            try simp only [Act.put, List.setIfInBounds_toArray, List.set_cons_zero, List.set_cons_succ]
            refine stepH 4 (by kernel_rfl) rfl (by rfl) (fun K hK => ?_)
            go_simp
            refine (cM.out _).mono ?_
            rintro e wa1 ⟨rfl, hba1⟩
            have hra1 := HR.next hHeld.2.2 hba1
            have hf1 := HR.next hf0 hba1
            refine hK.out _ _ ?_ (fun hHeld => ?_)
            · exact ⟨HR.cell hra1 (b := b9) (cs := #[.int .u64 qx, .int .u64 qy]) (t := 37) (by simp) 0 rfl, HR.cell hra1 (b := b9) (cs := #[.int .u64 qx, .int .u64 qy]) (t := 37) (by simp) 1 rfl, hra1⟩
            clear hK K
            try simp only [Act.put, List.setIfInBounds_toArray, List.set_cons_zero, List.set_cons_succ]
            refine stepH 5 (by kernel_rfl) rfl (by rfl) (fun K hK => ?_)
            go_simp
            refine (cA.out _).mono ?_
            rintro e wa2 ⟨rfl, hba2⟩
            have hra2 := HR.next hHeld.2.2 hba2
            have hf2 := HR.next hf1 hba2
            refine hK.out _ _ ?_ (fun hHeld => ?_)
            · exact ⟨HR.cell hra2 (b := b9) (cs := #[.int .u64 qx, .int .u64 qy]) (t := 37) (by simp) 0 rfl, HR.cell hra2 (b := b9) (cs := #[.int .u64 qx, .int .u64 qy]) (t := 37) (by simp) 1 rfl, hra2⟩
            clear hK K
            try simp only [Act.put, List.setIfInBounds_toArray, List.set_cons_zero, List.set_cons_succ]
            have e0 := hf2.cell (b := b6) (cs := #[.int .u64 ox, .int .u64 oy]) (t := 37) (by simp) 0 rfl
            have e1 := hf2.cell (b := b6) (cs := #[.int .u64 ox, .int .u64 oy]) (t := 37) (by simp) 1 rfl
            have i0 := hf2.free (b := b6) (cs := #[.int .u64 ox, .int .u64 oy]) (t := 37) (by simp) 0
            have i1 := hf2.free (b := b6) (cs := #[.int .u64 ox, .int .u64 oy]) (t := 37) (by simp) 1
            have hrow8 := (hf2.row (b := b6) (cs := #[.int .u64 ox, .int .u64 oy]) (t := 37) (by simp)).set2 (v0 := .int .u64 sx) (v1 := .int .u64 sy)
            refine stepH 6 (by kernel_rfl) rfl (by rfl) (fun K hK => ?_)
            go_simp
            refine hK.out _ _ ?_ (fun hHeld => ?_)
            · exact ⟨HR.cell (HR.like (HR.other (HR.other (HR.sub (qs := [(b9, #[.int .u64 qx, .int .u64 qy], 37), (b4, #[.int .u64 0, .int .u64 0], 37)]) hf2 (by simp)) (D := b6) (o := 0) (v := .int .u64 sx) (by simp; omega) (by omega)) (D := b6) (o := 1) (v := .int .u64 sy) (by simp; omega) (by omega)) rfl rfl rfl rfl) (b := b9) (cs := #[.int .u64 qx, .int .u64 qy]) (t := 37) (by simp) 0 rfl, HR.cell (HR.like (HR.other (HR.other (HR.sub (qs := [(b9, #[.int .u64 qx, .int .u64 qy], 37), (b4, #[.int .u64 0, .int .u64 0], 37)]) hf2 (by simp)) (D := b6) (o := 0) (v := .int .u64 sx) (by simp; omega) (by omega)) (D := b6) (o := 1) (v := .int .u64 sy) (by simp; omega) (by omega)) rfl rfl rfl rfl) (b := b9) (cs := #[.int .u64 qx, .int .u64 qy]) (t := 37) (by simp) 1 rfl, (HR.like (HR.other (HR.other (HR.sub (qs := [(b9, #[.int .u64 qx, .int .u64 qy], 37), (b4, #[.int .u64 0, .int .u64 0], 37)]) hf2 (by simp)) (D := b6) (o := 0) (v := .int .u64 sx) (by simp; omega) (by omega)) (D := b6) (o := 1) (v := .int .u64 sy) (by simp; omega) (by omega)) rfl rfl rfl rfl)⟩
            clear hK K
            try simp only [Act.put, List.setIfInBounds_toArray, List.set_cons_zero, List.set_cons_succ]
            refine wpAnyH_done (by kernel_rfl) (NoPanic.normal ?_) _
            have HS := Lib.hid (HR.add hHeld.2.2 hrow8)
            clear hHeld hrow8 e0 e1 i0 i1
            have HN := Lib.hid (HR.sub (qs := [(b6, #[.int .u64 sx, .int .u64 sy], 37), (b4, #[.int .u64 0, .int .u64 0], 37)]) HS.out (by simp))
            clear HS
            go_wp2_with fail
            go_roundw
            case rel => exact ⟨j + 1, _, sx, sy, by first | (simp; omega) | simp, by omega, hCn, hvs, HN⟩
            case measure => first | (simp [intOf]; omega) | simp [intOf]
          · go_simp
            refine (cM.out _).mono ?_
            rintro e wa1 ⟨rfl, hba1⟩
            have hra1 := HR.next hHeld.2.2 hba1
            have hf1 := HR.next hf0 hba1
            refine hK.out _ _ ?_ (fun hHeld => ?_)
            · exact ⟨HR.cell hra1 (b := b9) (cs := #[.int .u64 qx, .int .u64 qy]) (t := 37) (by simp) 0 rfl, HR.cell hra1 (b := b9) (cs := #[.int .u64 qx, .int .u64 qy]) (t := 37) (by simp) 1 rfl, hra1⟩
            clear hK K
            try simp only [Act.put, List.setIfInBounds_toArray, List.set_cons_zero, List.set_cons_succ]
            refine stepH 0 (by kernel_rfl) rfl (by rfl) (fun K hK => ?_)
            have e0 := hf1.cell (b := b6) (cs := #[.int .u64 ox, .int .u64 oy]) (t := 37) (by simp) 0 rfl
            have e1 := hf1.cell (b := b6) (cs := #[.int .u64 ox, .int .u64 oy]) (t := 37) (by simp) 1 rfl
            go_simp
            refine hK.out _ _ ?_ (fun hHeld => ?_)
            · exact hHeld
            clear e0 e1
            clear hK K
            try simp only [Act.put, List.setIfInBounds_toArray, List.set_cons_zero, List.set_cons_succ]
            refine stepH 5 (by kernel_rfl) rfl (by rfl) (fun K hK => ?_)
            go_simp
            refine (cA.out _).mono ?_
            rintro e wa2 ⟨rfl, hba2⟩
            have hra2 := HR.next hHeld.2.2 hba2
            have hf2 := HR.next hf1 hba2
            refine hK.out _ _ ?_ (fun hHeld => ?_)
            · exact ⟨HR.cell hra2 (b := b9) (cs := #[.int .u64 qx, .int .u64 qy]) (t := 37) (by simp) 0 rfl, HR.cell hra2 (b := b9) (cs := #[.int .u64 qx, .int .u64 qy]) (t := 37) (by simp) 1 rfl, hra2⟩
            clear hK K
            try simp only [Act.put, List.setIfInBounds_toArray, List.set_cons_zero, List.set_cons_succ]
            have e0 := hf2.cell (b := b6) (cs := #[.int .u64 ox, .int .u64 oy]) (t := 37) (by simp) 0 rfl
            have e1 := hf2.cell (b := b6) (cs := #[.int .u64 ox, .int .u64 oy]) (t := 37) (by simp) 1 rfl
            have i0 := hf2.free (b := b6) (cs := #[.int .u64 ox, .int .u64 oy]) (t := 37) (by simp) 0
            have i1 := hf2.free (b := b6) (cs := #[.int .u64 ox, .int .u64 oy]) (t := 37) (by simp) 1
            have hrow8 := (hf2.row (b := b6) (cs := #[.int .u64 ox, .int .u64 oy]) (t := 37) (by simp)).set2 (v0 := .int .u64 sx) (v1 := .int .u64 sy)
            refine stepH 6 (by kernel_rfl) rfl (by rfl) (fun K hK => ?_)
            go_simp
            refine hK.out _ _ ?_ (fun hHeld => ?_)
            · exact ⟨HR.cell (HR.like (HR.other (HR.other (HR.sub (qs := [(b9, #[.int .u64 qx, .int .u64 qy], 37), (b4, #[.int .u64 0, .int .u64 0], 37)]) hf2 (by simp)) (D := b6) (o := 0) (v := .int .u64 sx) (by simp; omega) (by omega)) (D := b6) (o := 1) (v := .int .u64 sy) (by simp; omega) (by omega)) rfl rfl rfl rfl) (b := b9) (cs := #[.int .u64 qx, .int .u64 qy]) (t := 37) (by simp) 0 rfl, HR.cell (HR.like (HR.other (HR.other (HR.sub (qs := [(b9, #[.int .u64 qx, .int .u64 qy], 37), (b4, #[.int .u64 0, .int .u64 0], 37)]) hf2 (by simp)) (D := b6) (o := 0) (v := .int .u64 sx) (by simp; omega) (by omega)) (D := b6) (o := 1) (v := .int .u64 sy) (by simp; omega) (by omega)) rfl rfl rfl rfl) (b := b9) (cs := #[.int .u64 qx, .int .u64 qy]) (t := 37) (by simp) 1 rfl, (HR.like (HR.other (HR.other (HR.sub (qs := [(b9, #[.int .u64 qx, .int .u64 qy], 37), (b4, #[.int .u64 0, .int .u64 0], 37)]) hf2 (by simp)) (D := b6) (o := 0) (v := .int .u64 sx) (by simp; omega) (by omega)) (D := b6) (o := 1) (v := .int .u64 sy) (by simp; omega) (by omega)) rfl rfl rfl rfl)⟩
            clear hK K
            try simp only [Act.put, List.setIfInBounds_toArray, List.set_cons_zero, List.set_cons_succ]
            refine wpAnyH_done (by kernel_rfl) (NoPanic.normal ?_) _
            have HS := Lib.hid (HR.add hHeld.2.2 hrow8)
            clear hHeld hrow8 e0 e1 i0 i1
            have HN := Lib.hid (HR.sub (qs := [(b6, #[.int .u64 sx, .int .u64 sy], 37), (b4, #[.int .u64 0, .int .u64 0], 37)]) HS.out (by simp))
            clear HS
            go_wp2_with fail
            go_roundw
            case rel => exact ⟨j + 1, _, sx, sy, by first | (simp; omega) | simp, by omega, hCn, hvs, HN⟩
            case measure => first | (simp [intOf]; omega) | simp [intOf]
      · have i2 : 0 < i := by omega
        obtain ⟨v, hv, v0, v1⟩ := u64_at HV.out (i := i - 1) (by omega) (by omega)
        obtain ⟨vb, vo, rfl, hvb, hul⟩ := hS.out.bl (by rw [HV.out.len]; omega)
        have cv : wr.cell? ⟨vb, vo + (i.toNat - 1), none⟩ = some (.int .u64 v) := by rw [← hv, show i.toNat - 1 = (i - 1).toNat by omega]; exact (hul.below H.out.2 hvb) (i - 1).toNat (by rw [HV.out.len]; omega)
        have hvn := Lib.hid (show v.toNat = if j = 0 then x.toNat else V.getD (j - 1) 0 by rw [if_neg hz, show j - 1 = (i - 1).toNat by omega]; omega)
        have hwm := wrap_small (x := i - 1) (by omega) (by omega)
        replace hv := Lib.hid hv
        replace hz := Lib.hid hz
        have htv : v.tmod 72057593894066549 = v % 72057593894066549 := Int.tmod_eq_emod_of_nonneg v0
        cases hBj : baseP j with
        | none =>
          have hRn : R = none := by rw [← hR.out]; exact com_none (j := j) (comP_stop hC.out hBj) len (by omega)
          subst hRn
          have cB := Lib.hid (fun W (hw : Below w.heap.size w W) => lFindN i (by omega) (by omega) (by rw [show (i : Int).toNat = j by omega]; exact hBj) W (hG.out.below hw))
          clear hBj hC
          go_wp2_with fail
          refine (cB.out _ H.out.2).mono ?_
          rintro e w5 ⟨rfl, hb5⟩
          have H5 := Lib.hid ((H.out.next hb5).alloc (.cells #[.int .u64 0, .int .u64 0] 37))
          go_upto_region 9 with fail
          generalize w5.alloc (.cells #[.int .u64 0, .int .u64 0] 37) = w6 at H5 ⊢
          have c_b6_0 := H5.out.cell (b := b6) (cs := #[.int .u64 ox, .int .u64 oy]) (t := 37) (by simp) 0 rfl
          have c_b6_1 := H5.out.cell (b := b6) (cs := #[.int .u64 ox, .int .u64 oy]) (t := 37) (by simp) 1 rfl
          have c_b4_0 := H5.out.cell (b := b4) (cs := #[.int .u64 0, .int .u64 0]) (t := 37) (by simp) 0 rfl
          have c_b4_1 := H5.out.cell (b := b4) (cs := #[.int .u64 0, .int .u64 0]) (t := 37) (by simp) 1 rfl
          have f_b4_0 := H5.out.free (b := b4) (cs := #[.int .u64 0, .int .u64 0]) (t := 37) (by simp) 0
          have f_b4_1 := H5.out.free (b := b4) (cs := #[.int .u64 0, .int .u64 0]) (t := 37) (by simp) 1
          go_wp2_with fail
          refine bodyPost_ret (v := .tuple #[edV 0 0, .bool false]) (by simp [results, Tryd.results38, go_sem, c_b4_0, c_b4_1]) rfl ⟨rfl, ?_⟩
          rw [← hb4]
          exact bSet (bSet H5.out.2 (by omega)) (by omega)
        | some q =>
          have cB := fun W (hw : Below w.heap.size w W) => lFindY i (by omega) (by omega) (q := q) (by rw [show (i : Int).toNat = j by omega]; exact hBj) W (hG.out.below hw)
          have hCn := comP_next hC.out hBj hvn.out
          obtain ⟨qx, qy, qx0, qy0, -, -, hvq, hnq⟩ := coordsN q
          have cM := fun w => rTimes qx qy (v % 72057593894066549) qx0 qy0 (by omega) (by omega) q hvq w
          rw [show (v % 72057593894066549).toNat = v.toNat % 72057593894066549 by omega] at cM
          generalize Obol.Pnt.smul (v.toNat % 72057593894066549) q = m at cM hCn
          obtain ⟨mx, my, mx0, my0, -, -, hvm, hnm⟩ := coordsN m
          have cA := fun w => rSum ox oy mx my (pt_pos hvo.out).1 (pt_pos hvo.out).2 mx0 my0 o m hvo.out hvm w
          generalize o.add m = o' at cA hCn
          obtain ⟨sx, sy, -, -, -, -, hvs, -⟩ := coordsN o'
          rw [hvs] at cA
          rw [hvm] at cM
          rw [hvq] at cB
          replace cM := Lib.hid cM
          replace cA := Lib.hid cA
          replace cB := Lib.hid cB
          replace hCn := Lib.hid hCn
          replace hvs := Lib.hid hvs
          clear hvm hnm hvq hnq qx0 qy0 mx0 my0 hBj hC hvo
          go_wp2_with fail
          refine (cB.out _ H.out.2).mono ?_
          rintro e w5 ⟨rfl, hb5⟩
          have H5 := Lib.hid ((H.out.next hb5).new #[.int .u64 qx, .int .u64 qy] 37)
          have hl5 : b6 < w5.heap.size := by have := hb5.size; have := H.out.lt (b := b6) (cs := #[.int .u64 ox, .int .u64 oy]) (t := 37) (by simp); omega
          go_upto_region 9 with fail
          generalize w5.alloc (.cells #[.int .u64 qx, .int .u64 qy] 37) = w6 at H5 ⊢
          generalize w5.heap.size = b9 at H5 hl5 ⊢
          replace H5 := Lib.hid (HR.sub (qs := [(b6, #[.int .u64 ox, .int .u64 oy], 37), (b9, #[.int .u64 qx, .int .u64 qy], 37), (b4, #[.int .u64 0, .int .u64 0], 37)]) H5.out (by simp))
          go_wp2_with fail
          have H5t := Lib.hid (HR.sub (qs := [(b9, #[.int .u64 qx, .int .u64 qy], 37), (b4, #[.int .u64 0, .int .u64 0], 37)]) H5.out (by simp))
          have hf0 := HR.drew H5.out
          refine wp_region_noPanic ?_
          refine wp_region_held_drew (S := fun wq => wq.cell? ⟨b9, 0, none⟩ = some (.int .u64 qx) ∧ wq.cell? ⟨b9, 1, none⟩ = some (.int .u64 qy) ∧ HR w wq [(b9, #[.int .u64 qx, .int .u64 qy], 37), (b4, #[.int .u64 0, .int .u64 0], 37)]) (by kernel_rfl) ?_ (fun hHeld => ?_)
          · have hq0 := HR.drew H5t.out
            exact ⟨HR.cell hq0 (b := b9) (cs := #[.int .u64 qx, .int .u64 qy]) (t := 37) (by simp) 0 rfl, HR.cell hq0 (b := b9) (cs := #[.int .u64 qx, .int .u64 qy]) (t := 37) (by simp) 1 rfl, hq0⟩
          refine takeH 1 (fun _ _ _ _ _ h => h) (by kernel_rfl) hHeld rfl (by kernel_rfl) (by rfl) (v := ?_) ?_ ?_
          rotate_left
          ((intro wz hz; (try dsimp only at hz); go_simp) <;> with_reducible rfl)
          try simp only [Act.put, List.setIfInBounds_toArray, List.set_cons_zero, List.set_cons_succ]
          refine takeH 2 (fun _ _ _ _ _ h => h) (by kernel_rfl) hHeld rfl (by kernel_rfl) (by rfl) (v := ?_) ?_ ?_
          rotate_left
          ((intro wz hz; (try dsimp only at hz); go_simp) <;> with_reducible rfl)
          try simp only [Act.put, List.setIfInBounds_toArray, List.set_cons_zero, List.set_cons_succ]
          refine takeH 3 (fun _ _ _ _ _ h => h) (by kernel_rfl) hHeld rfl (by kernel_rfl) (by rfl) (v := ?_) ?_ ?_
          rotate_left
          ((intro wz hz; (try dsimp only at hz); go_simp) <;> with_reducible rfl)
          try simp only [Act.put, List.setIfInBounds_toArray, List.set_cons_zero, List.set_cons_succ]
          refine wpAnyH_ready (rs := [0, 4]) (by kernel_rfl) (by simp) ?_
          refine AllReadyH.cons (i := 0) (by rw [List.getElem?_toArray]; exact rfl) (fun K hK => ?_) (AllReadyH.cons (i := 4) (by rw [List.getElem?_toArray]; exact rfl) (fun K hK => ?_) AllReadyH.nil)
          · have e0 := hf0.cell (b := b6) (cs := #[.int .u64 ox, .int .u64 oy]) (t := 37) (by simp) 0 rfl
            have e1 := hf0.cell (b := b6) (cs := #[.int .u64 ox, .int .u64 oy]) (t := 37) (by simp) 1 rfl
            go_simp
            refine hK.out _ _ ?_ (fun hHeld => ?_)
            · exact hHeld
            clear e0 e1
            clear hK K
            try simp only [Act.put, List.setIfInBounds_toArray, List.set_cons_zero, List.set_cons_succ]
            refine stepH 4 (by kernel_rfl) rfl (by rfl) (fun K hK => ?_)
            go_simp
            refine (cM.out _).mono ?_
            rintro e wa1 ⟨rfl, hba1⟩
            have hra1 := HR.next hHeld.2.2 hba1
            have hf1 := HR.next hf0 hba1
            refine hK.out _ _ ?_ (fun hHeld => ?_)
            · exact ⟨HR.cell hra1 (b := b9) (cs := #[.int .u64 qx, .int .u64 qy]) (t := 37) (by simp) 0 rfl, HR.cell hra1 (b := b9) (cs := #[.int .u64 qx, .int .u64 qy]) (t := 37) (by simp) 1 rfl, hra1⟩
            clear hK K
            try simp only [Act.put, List.setIfInBounds_toArray, List.set_cons_zero, List.set_cons_succ]
            refine stepH 5 (by kernel_rfl) rfl (by rfl) (fun K hK => ?_)
            go_simp
            refine (cA.out _).mono ?_
            rintro e wa2 ⟨rfl, hba2⟩
            have hra2 := HR.next hHeld.2.2 hba2
            have hf2 := HR.next hf1 hba2
            refine hK.out _ _ ?_ (fun hHeld => ?_)
            · exact ⟨HR.cell hra2 (b := b9) (cs := #[.int .u64 qx, .int .u64 qy]) (t := 37) (by simp) 0 rfl, HR.cell hra2 (b := b9) (cs := #[.int .u64 qx, .int .u64 qy]) (t := 37) (by simp) 1 rfl, hra2⟩
            clear hK K
            try simp only [Act.put, List.setIfInBounds_toArray, List.set_cons_zero, List.set_cons_succ]
            have e0 := hf2.cell (b := b6) (cs := #[.int .u64 ox, .int .u64 oy]) (t := 37) (by simp) 0 rfl
            have e1 := hf2.cell (b := b6) (cs := #[.int .u64 ox, .int .u64 oy]) (t := 37) (by simp) 1 rfl
            have i0 := hf2.free (b := b6) (cs := #[.int .u64 ox, .int .u64 oy]) (t := 37) (by simp) 0
            have i1 := hf2.free (b := b6) (cs := #[.int .u64 ox, .int .u64 oy]) (t := 37) (by simp) 1
            have hrow8 := (hf2.row (b := b6) (cs := #[.int .u64 ox, .int .u64 oy]) (t := 37) (by simp)).set2 (v0 := .int .u64 sx) (v1 := .int .u64 sy)
            refine stepH 6 (by kernel_rfl) rfl (by rfl) (fun K hK => ?_)
            go_simp
            refine hK.out _ _ ?_ (fun hHeld => ?_)
            · exact ⟨HR.cell (HR.like (HR.other (HR.other (HR.sub (qs := [(b9, #[.int .u64 qx, .int .u64 qy], 37), (b4, #[.int .u64 0, .int .u64 0], 37)]) hf2 (by simp)) (D := b6) (o := 0) (v := .int .u64 sx) (by simp; omega) (by omega)) (D := b6) (o := 1) (v := .int .u64 sy) (by simp; omega) (by omega)) rfl rfl rfl rfl) (b := b9) (cs := #[.int .u64 qx, .int .u64 qy]) (t := 37) (by simp) 0 rfl, HR.cell (HR.like (HR.other (HR.other (HR.sub (qs := [(b9, #[.int .u64 qx, .int .u64 qy], 37), (b4, #[.int .u64 0, .int .u64 0], 37)]) hf2 (by simp)) (D := b6) (o := 0) (v := .int .u64 sx) (by simp; omega) (by omega)) (D := b6) (o := 1) (v := .int .u64 sy) (by simp; omega) (by omega)) rfl rfl rfl rfl) (b := b9) (cs := #[.int .u64 qx, .int .u64 qy]) (t := 37) (by simp) 1 rfl, (HR.like (HR.other (HR.other (HR.sub (qs := [(b9, #[.int .u64 qx, .int .u64 qy], 37), (b4, #[.int .u64 0, .int .u64 0], 37)]) hf2 (by simp)) (D := b6) (o := 0) (v := .int .u64 sx) (by simp; omega) (by omega)) (D := b6) (o := 1) (v := .int .u64 sy) (by simp; omega) (by omega)) rfl rfl rfl rfl)⟩
            clear hK K
            try simp only [Act.put, List.setIfInBounds_toArray, List.set_cons_zero, List.set_cons_succ]
            refine wpAnyH_done (by kernel_rfl) (NoPanic.normal ?_) _
            have HS := Lib.hid (HR.add hHeld.2.2 hrow8)
            clear hHeld hrow8 e0 e1 i0 i1
            have HN := Lib.hid (HR.sub (qs := [(b6, #[.int .u64 sx, .int .u64 sy], 37), (b4, #[.int .u64 0, .int .u64 0], 37)]) HS.out (by simp))
            clear HS
            go_wp2_with fail
            go_roundw
            case rel => exact ⟨j + 1, _, sx, sy, by first | (simp; omega) | simp, by omega, hCn, hvs, HN⟩
            case measure => first | (simp [intOf]; omega) | simp [intOf]
          · go_simp
            refine (cM.out _).mono ?_
            rintro e wa1 ⟨rfl, hba1⟩
            have hra1 := HR.next hHeld.2.2 hba1
            have hf1 := HR.next hf0 hba1
            refine hK.out _ _ ?_ (fun hHeld => ?_)
            · exact ⟨HR.cell hra1 (b := b9) (cs := #[.int .u64 qx, .int .u64 qy]) (t := 37) (by simp) 0 rfl, HR.cell hra1 (b := b9) (cs := #[.int .u64 qx, .int .u64 qy]) (t := 37) (by simp) 1 rfl, hra1⟩
            clear hK K
            try simp only [Act.put, List.setIfInBounds_toArray, List.set_cons_zero, List.set_cons_succ]
            refine stepH 0 (by kernel_rfl) rfl (by rfl) (fun K hK => ?_)
            have e0 := hf1.cell (b := b6) (cs := #[.int .u64 ox, .int .u64 oy]) (t := 37) (by simp) 0 rfl
            have e1 := hf1.cell (b := b6) (cs := #[.int .u64 ox, .int .u64 oy]) (t := 37) (by simp) 1 rfl
            go_simp
            refine hK.out _ _ ?_ (fun hHeld => ?_)
            · exact hHeld
            clear e0 e1
            clear hK K
            try simp only [Act.put, List.setIfInBounds_toArray, List.set_cons_zero, List.set_cons_succ]
            refine stepH 5 (by kernel_rfl) rfl (by rfl) (fun K hK => ?_)
            go_simp
            refine (cA.out _).mono ?_
            rintro e wa2 ⟨rfl, hba2⟩
            have hra2 := HR.next hHeld.2.2 hba2
            have hf2 := HR.next hf1 hba2
            refine hK.out _ _ ?_ (fun hHeld => ?_)
            · exact ⟨HR.cell hra2 (b := b9) (cs := #[.int .u64 qx, .int .u64 qy]) (t := 37) (by simp) 0 rfl, HR.cell hra2 (b := b9) (cs := #[.int .u64 qx, .int .u64 qy]) (t := 37) (by simp) 1 rfl, hra2⟩
            clear hK K
            try simp only [Act.put, List.setIfInBounds_toArray, List.set_cons_zero, List.set_cons_succ]
            have e0 := hf2.cell (b := b6) (cs := #[.int .u64 ox, .int .u64 oy]) (t := 37) (by simp) 0 rfl
            have e1 := hf2.cell (b := b6) (cs := #[.int .u64 ox, .int .u64 oy]) (t := 37) (by simp) 1 rfl
            have i0 := hf2.free (b := b6) (cs := #[.int .u64 ox, .int .u64 oy]) (t := 37) (by simp) 0
            have i1 := hf2.free (b := b6) (cs := #[.int .u64 ox, .int .u64 oy]) (t := 37) (by simp) 1
            have hrow8 := (hf2.row (b := b6) (cs := #[.int .u64 ox, .int .u64 oy]) (t := 37) (by simp)).set2 (v0 := .int .u64 sx) (v1 := .int .u64 sy)
            refine stepH 6 (by kernel_rfl) rfl (by rfl) (fun K hK => ?_)
            go_simp
            refine hK.out _ _ ?_ (fun hHeld => ?_)
            · exact ⟨HR.cell (HR.like (HR.other (HR.other (HR.sub (qs := [(b9, #[.int .u64 qx, .int .u64 qy], 37), (b4, #[.int .u64 0, .int .u64 0], 37)]) hf2 (by simp)) (D := b6) (o := 0) (v := .int .u64 sx) (by simp; omega) (by omega)) (D := b6) (o := 1) (v := .int .u64 sy) (by simp; omega) (by omega)) rfl rfl rfl rfl) (b := b9) (cs := #[.int .u64 qx, .int .u64 qy]) (t := 37) (by simp) 0 rfl, HR.cell (HR.like (HR.other (HR.other (HR.sub (qs := [(b9, #[.int .u64 qx, .int .u64 qy], 37), (b4, #[.int .u64 0, .int .u64 0], 37)]) hf2 (by simp)) (D := b6) (o := 0) (v := .int .u64 sx) (by simp; omega) (by omega)) (D := b6) (o := 1) (v := .int .u64 sy) (by simp; omega) (by omega)) rfl rfl rfl rfl) (b := b9) (cs := #[.int .u64 qx, .int .u64 qy]) (t := 37) (by simp) 1 rfl, (HR.like (HR.other (HR.other (HR.sub (qs := [(b9, #[.int .u64 qx, .int .u64 qy], 37), (b4, #[.int .u64 0, .int .u64 0], 37)]) hf2 (by simp)) (D := b6) (o := 0) (v := .int .u64 sx) (by simp; omega) (by omega)) (D := b6) (o := 1) (v := .int .u64 sy) (by simp; omega) (by omega)) rfl rfl rfl rfl)⟩
            clear hK K
            try simp only [Act.put, List.setIfInBounds_toArray, List.set_cons_zero, List.set_cons_succ]
            refine wpAnyH_done (by kernel_rfl) (NoPanic.normal ?_) _
            have HS := Lib.hid (HR.add hHeld.2.2 hrow8)
            clear hHeld hrow8 e0 e1 i0 i1
            have HN := Lib.hid (HR.sub (qs := [(b6, #[.int .u64 sx, .int .u64 sy], 37), (b4, #[.int .u64 0, .int .u64 0], 37)]) HS.out (by simp))
            clear HS
            go_wp2_with fail
            go_roundw
            case rel => exact ⟨j + 1, _, sx, sy, by first | (simp; omega) | simp, by omega, hCn, hvs, HN⟩
            case measure => first | (simp [intOf]; omega) | simp [intOf]
    · obtain rfl : j = len + 1 := by omega
      have i1 : ¬ i ≤ (len : Int) := by omega
      have hRs : Hid (R = some o) := Lib.hid (by rw [← hR.out]; exact hC.out)
      have c_b6_0 := H.out.cell (b := b6) (cs := #[.int .u64 ox, .int .u64 oy]) (t := 37) (by simp) 0 rfl
      have c_b6_1 := H.out.cell (b := b6) (cs := #[.int .u64 ox, .int .u64 oy]) (t := 37) (by simp) 1 rfl
      have c_b4_0 := H.out.cell (b := b4) (cs := #[.int .u64 0, .int .u64 0]) (t := 37) (by simp) 0 rfl
      have c_b4_1 := H.out.cell (b := b4) (cs := #[.int .u64 0, .int .u64 0]) (t := 37) (by simp) 1 rfl
      have f_b4_0 := H.out.free (b := b4) (cs := #[.int .u64 0, .int .u64 0]) (t := 37) (by simp) 0
      have f_b4_1 := H.out.free (b := b4) (cs := #[.int .u64 0, .int .u64 0]) (t := 37) (by simp) 1
      have HF := Lib.hid (HR.other (HR.other (HR.sub (qs := []) H.out (by simp)) (D := b4) (o := 0) (v := .int .u64 ox) (by simp) (by omega)) (D := b4) (o := 1) (v := .int .u64 oy) (by simp) (by omega))
      go_wp2_with fail
      refine bodyPost_ret (v := .tuple #[edV ox oy, .bool true]) (by simp [results, Tryd.results38, go_sem, c_b4_0, c_b4_1]) rfl ⟨by rw [hRs.out]; show _ = Ending.returned (.tuple #[ptV o, .bool true]); rw [hvo.out], by subst hb4; exact HF.out.2⟩

end Go.Proofs.YtiffendfojhapaaDoor
