import Derived.Test.YtkfimfjjmdjbdaaGreatDoorUh
import Derived.Test.YtkfimfjjmdjbdaaGreatDoorUb
import Derived.Test.YtkfimfjjmdjbdaaGreatDoorUj
set_option linter.unusedVariables false
set_option linter.unusedSimpArgs false
set_option linter.unusedSectionVars false
/- Walks: the reference of layer 3: sums, multiples, points of order R. -/
namespace Go.Proofs.YtkfimfjjmdjbdaaGreatDoor
open Go.RowKit
set_option linter.unusedVariables false
set_option linter.unusedSectionVars false

theorem litP2 : (1152921505151057921 : Int).toNat = Obol.P - 2 := by decide +kernel
theorem r3Add (a b : Int) (ha : 0 ≤ a) (hb : 0 ≤ b) (w : World) :
    Calls Tryz.prog 83 #[.int .u64 1152921505151057923, .int .u64 a, .int .u64 b] w fun e w' => e = .returned (.int .u64 ((Obol.addP a.toNat b.toNat : Nat) : Int)) ∧ ∃ n, w' = w.drewN n := by
  have h := r1Add 1152921505151057923 a b (by omega) (by omega) ha hb w
  rw [litP] at h
  rw [Obol.addP_eq]
  exact h.mono fun e w' ⟨h1, h2⟩ => ⟨h1, 0, by rw [h2]; rfl⟩
theorem r3Mul (a b : Int) (ha : 0 ≤ a) (hb : 0 ≤ b) (w : World) :
    Calls Tryz.prog 82 #[.int .u64 a, .int .u64 b] w fun e w' => e = .returned (.int .u64 ((Obol.mulP a.toNat b.toNat : Nat) : Int)) ∧ ∃ n, w' = w.drewN n := by
  have h := fun w => r1Mul 1152921505151057923 a b (by omega) (by omega) ha hb w
  rw [litP] at h
  rw [Obol.mulP_eq]
  replace h := Lib.hid h
  go_enter Tryz.func82, Tryz.ntmps82
  go_wp2_with (go_at_call 102; refine (h.out _).mono ?_; rintro e w' ⟨rfl, rfl⟩)
  go_ret
  exact ⟨rfl, 0, rfl⟩
theorem r2Neg (b : Int) (hb : 0 ≤ b) (w : World) :
    Calls Tryz.prog 116 #[.int .u64 b] w fun e w' => e = .returned (.int .u64 (if b % 1152921505151057923 = 0 then 0 else 1152921505151057923 - b % 1152921505151057923)) ∧ w' = w := by
  have ht : b.tmod 1152921505151057923 = b % 1152921505151057923 := Int.tmod_eq_emod_of_nonneg hb
  obtain ⟨q, hq⟩ : ∃ q, b % 1152921505151057923 = q := ⟨_, rfl⟩
  have q0 : 0 ≤ q := by omega
  have q1 : q < 1152921505151057923 := by omega
  rw [hq] at ht ⊢
  clear hq
  by_cases hz : q = 0
  · subst hz
    go_enter Tryz.func116, Tryz.ntmps116
    go_wp2_with fail
    go_ret
    exact ⟨rfl, rfl⟩
  · have hzb : (q == 0) = false := beq_eq_false_iff_ne.2 hz
    have hr := Lib.hid (if_neg hz : (if q = 0 then (0 : Int) else 1152921505151057923 - q) = 1152921505151057923 - q)
    replace hz := Lib.hid hz
    go_enter Tryz.func116, Tryz.ntmps116
    go_wp2_with fail
    go_ret
    exact ⟨rfl, rfl⟩
theorem r3Less (a b : Int) (ha : 0 ≤ a) (hb : 0 ≤ b) (w : World) :
    Calls Tryz.prog 107 #[.int .u64 a, .int .u64 b] w fun e w' => e = .returned (.int .u64 ((Obol.subP a.toNat b.toNat : Nat) : Int)) ∧ ∃ n, w' = w.drewN n := by
  have hN := fun w => r2Neg b hb w
  obtain ⟨q, hq⟩ : ∃ q : Int, (if b % 1152921505151057923 = 0 then 0 else 1152921505151057923 - b % 1152921505151057923) = q := ⟨_, rfl⟩
  have q0 : 0 ≤ q := by rw [← hq]; split <;> omega
  have hs : Obol.addP a.toNat q.toNat = Obol.subP a.toNat b.toNat := by
    rw [Obol.addP_eq, Obol.subP_eq, Obol.addPQ, Obol.subPQ, ← hq, Obol.P_def]
    split <;> omega
  rw [hq] at hN
  have hA := fun w => r3Add a q ha q0 w
  rw [hs] at hA
  replace hN := Lib.hid hN
  replace hA := Lib.hid hA
  clear hq hs
  go_enter Tryz.func107, Tryz.ntmps107
  go_wp2_with (first | (go_at_call 116; refine (hN.out _).mono ?_; rintro e w' ⟨rfl, rfl⟩) | (go_at_call 83; refine (hA.out _).mono ?_; rintro e w' ⟨rfl, n, rfl⟩))
  go_ret
  exact ⟨rfl, _, rfl⟩
theorem r3Over (a b : Int) (ha : 0 ≤ a) (hb : 0 ≤ b) (w : World) :
    Calls Tryz.prog 115 #[.int .u64 a, .int .u64 b] w fun e w' => e = .returned (.int .u64 ((Obol.overP a.toNat b.toNat : Nat) : Int)) ∧ ∃ n, w' = w.drewN n := by
  have h := fun w => r1Pow 1152921505151057923 b 1152921505151057921 (by omega) (by omega) hb (by omega) (by omega) w
  rw [litP, litP2, Obol.powM, ← Obol.invP_eq] at h
  replace h := Lib.hid h
  go_enter Tryz.func115, Tryz.ntmps115
  go_wp2_with (first | (go_at_call 114; refine (h.out _).mono ?_; rintro e w' ⟨rfl, rfl⟩) | (go_at_call 82; refine (r3Mul _ _ (by omega) (by omega) _).mono ?_; rintro e w' ⟨rfl, n, rfl⟩))
  go_ret
  refine ⟨?_, _, rfl⟩
  show Ending.returned (.int .u64 ((Obol.mulP a.toNat (Obol.invP b.toNat) : Nat) : Int)) = _
  rw [Obol.overP]

theorem r3Is (i : Bool) (X Y : Int) (hX : 0 ≤ X) (hY : 0 ≤ Y) (w : World) :
    Calls Tryz.prog 55 #[ptV i X Y] w fun e w' => e = .returned (.bool (isPt i X Y)) ∧ Below w.heap.size w w' := by
  cases i
  · have hi : isPt false X Y = Obol.isC X.toNat Y.toNat := rfl
    rw [hi]
    clear hi
    by_cases h1 : (1152921505151057923 : Int) ≤ X
    · have hr := Lib.hid (isC_far1 (x := X.toNat) (y := Y.toNat) (by omega))
      go_enter Tryz.func55, Tryz.ntmps55
      go_wp2_with fail
      go_ret
      exact ⟨by rw [hr.out]; rfl, by repeat (first | exact Below.refl _ _ | assumption | apply bDrewN | apply bDrew | apply bAlloc | refine bSet ?_ (by omega) | refine bThen ?_ (by assumption) (by simp <;> omega))⟩
    · by_cases h2 : (1152921505151057923 : Int) ≤ Y
      · have hr := Lib.hid (isC_far2 (x := X.toNat) (y := Y.toNat) (by omega))
        go_enter Tryz.func55, Tryz.ntmps55
        go_wp2_with fail
        go_ret
        exact ⟨by rw [hr.out]; rfl, by repeat (first | exact Below.refl _ _ | assumption | apply bDrewN | apply bDrew | apply bAlloc | refine bSet ?_ (by omega) | refine bThen ?_ (by assumption) (by simp <;> omega))⟩
      · have hr0 := isC_near (x := X.toNat) (y := Y.toNat) (by omega) (by omega)
        rw [Obol.mulP_comm (Obol.mulP X.toNat X.toNat)] at hr0
        have hr := Lib.hid hr0
        clear hr0
        go_enter Tryz.func55, Tryz.ntmps55
        go_wp2_with fail
        go_quiet ((first | (go_at_call 82; first | (refine Calls.quiet_of (r3Mul _ _ ?_ ?_ _) <;> omega) | (refine quiet_add (r3Mul _ _ ?_ ?_ _) <;> omega)) | (go_at_call 83; first | (refine Calls.quiet_of (r3Add _ _ ?_ ?_ _) <;> omega) | (refine quiet_add (r3Add _ _ ?_ ?_ _) <;> omega))))
        go_wp2_with fail
        go_ret
        exact ⟨by rw [hr.out]; rfl, by repeat (first | exact Below.refl _ _ | assumption | apply bDrewN | apply bDrew | apply bAlloc | refine bSet ?_ (by omega) | refine bThen ?_ (by assumption) (by simp <;> omega))⟩
  · have hr := Lib.hid (show isPt true X Y = (X == 0 && Y == 0) from rfl)
    by_cases h1 : X = 0
    · by_cases h2 : Y = 0
      · subst h1 h2
        go_enter Tryz.func55, Tryz.ntmps55
        go_wp2_with fail
        go_ret
        exact ⟨by rw [hr.out]; rfl, by repeat (first | exact Below.refl _ _ | assumption | apply bDrewN | apply bDrew | apply bAlloc | refine bSet ?_ (by omega) | refine bThen ?_ (by assumption) (by simp <;> omega))⟩
      · subst h1
        have h3 : (Y == 0) = false := beq_eq_false_iff_ne.2 h2
        replace h2 := Lib.hid h2
        go_enter Tryz.func55, Tryz.ntmps55
        go_wp2_with fail
        go_ret
        exact ⟨by rw [hr.out, h3]; rfl, by repeat (first | exact Below.refl _ _ | assumption | apply bDrewN | apply bDrew | apply bAlloc | refine bSet ?_ (by omega) | refine bThen ?_ (by assumption) (by simp <;> omega))⟩
    · have h3 : (X == 0) = false := beq_eq_false_iff_ne.2 h1
      replace h1 := Lib.hid h1
      go_enter Tryz.func55, Tryz.ntmps55
      go_wp2_with fail
      go_ret
      exact ⟨by rw [hr.out, h3]; rfl, by repeat (first | exact Below.refl _ _ | assumption | apply bDrewN | apply bDrew | apply bAlloc | refine bSet ?_ (by omega) | refine bThen ?_ (by assumption) (by simp <;> omega))⟩

section
variable (X Y A B : Int) (hX : 0 ≤ X) (hY : 0 ≤ Y) (hA : 0 ≤ A) (hB : 0 ≤ B) (w : World)
include hX hY hA hB
theorem r3WallN (h : X ≠ A) : Calls Tryz.prog 105 #[ptV false X Y, ptV false A B] w fun e w' => e = .returned (.bool false) ∧ Below w.heap.size w w' := by
  have h1 : (X == A) = false := beq_eq_false_iff_ne.2 h
  replace h := Lib.hid h
  go_enter Tryz.func105, Tryz.ntmps105
  go_wp2_with fail
  go_ret
  exact ⟨rfl, by repeat (first | exact Below.refl _ _ | assumption | apply bDrewN | apply bDrew | apply bAlloc | refine bSet ?_ (by omega) | refine bThen ?_ (by assumption) (by simp <;> omega))⟩
theorem r3WallS (s : Nat) (h : Obol.addP Y.toNat B.toNat = s) (h0 : s ≠ 0) : Calls Tryz.prog 105 #[ptV false X Y, ptV false X B] w fun e w' => e = .returned (.bool false) ∧ Below w.heap.size w w' := by
  have h1 : (((s : Nat) : Int) == 0) = false := beq_eq_false_iff_ne.2 (by omega)
  have hS := fun w => r3Add Y B hY hB w
  rw [h] at hS
  replace hS := Lib.hid hS
  replace h0 := Lib.hid h0
  replace h := Lib.hid h
  go_enter Tryz.func105, Tryz.ntmps105
  go_wp2_with (go_at_call 83; refine (hS.out _).mono ?_; rintro e w' ⟨rfl, n, rfl⟩)
  go_ret
  exact ⟨rfl, by repeat (first | exact Below.refl _ _ | assumption | apply bDrewN | apply bDrew | apply bAlloc | refine bSet ?_ (by omega) | refine bThen ?_ (by assumption) (by simp <;> omega))⟩
theorem r3WallY (h : Obol.addP Y.toNat B.toNat = 0) : Calls Tryz.prog 105 #[ptV false X Y, ptV false X B] w fun e w' => e = .returned (.bool true) ∧ Below w.heap.size w w' := by
  have hS := fun w => r3Add Y B hY hB w
  rw [h] at hS
  replace hS := Lib.hid hS
  replace h := Lib.hid h
  go_enter Tryz.func105, Tryz.ntmps105
  go_wp2_with (go_at_call 83; refine (hS.out _).mono ?_; rintro e w' ⟨rfl, n, rfl⟩)
  go_ret
  exact ⟨rfl, by repeat (first | exact Below.refl _ _ | assumption | apply bDrewN | apply bDrew | apply bAlloc | refine bSet ?_ (by omega) | refine bThen ?_ (by assumption) (by simp <;> omega))⟩
theorem r3Slope : Calls Tryz.prog 106 #[ptV false X Y, ptV false A B] w fun e w' => e = .returned (.int .u64 ((Obol.slopeC (X.toNat, Y.toNat) (A.toNat, B.toNat) : Nat) : Int)) ∧ Below w.heap.size w w' := by
  by_cases h : X = A
  · subst h
    have hr : Hid (Obol.slopeC (X.toNat, Y.toNat) (X.toNat, B.toNat) = Obol.overP (Obol.addP (Obol.mulP 3 (Obol.mulP X.toNat X.toNat)) 1) (Obol.mulP 2 Y.toNat)) := Lib.hid (if_pos rfl)
    go_enter Tryz.func106, Tryz.ntmps106
    go_wp2_with fail
    go_quiet ((first | (go_at_call 82; first | (refine Calls.quiet_of (r3Mul _ _ ?_ ?_ _) <;> omega) | (refine quiet_add (r3Mul _ _ ?_ ?_ _) <;> omega)) | (go_at_call 107; first | (refine Calls.quiet_of (r3Less _ _ ?_ ?_ _) <;> omega) | (refine quiet_add (r3Less _ _ ?_ ?_ _) <;> omega)) | (go_at_call 115; first | (refine Calls.quiet_of (r3Over _ _ ?_ ?_ _) <;> omega) | (refine quiet_add (r3Over _ _ ?_ ?_ _) <;> omega)) | (go_at_call 83; first | (refine Calls.quiet_of (r3Add _ _ ?_ ?_ _) <;> omega) | (refine quiet_add (r3Add _ _ ?_ ?_ _) <;> omega))))
    go_wp2_with fail
    go_ret
    exact ⟨by rw [hr.out]; rfl, by repeat (first | exact Below.refl _ _ | assumption | apply bDrewN | apply bDrew | apply bAlloc | refine bSet ?_ (by omega) | refine bThen ?_ (by assumption) (by simp <;> omega))⟩
  · have hr : Hid (Obol.slopeC (X.toNat, Y.toNat) (A.toNat, B.toNat) = Obol.overP (Obol.subP B.toNat Y.toNat) (Obol.subP A.toNat X.toNat)) := Lib.hid (if_neg (by simp only; omega))
    have h1 : (X == A) = false := beq_eq_false_iff_ne.2 h
    replace h := Lib.hid h
    go_enter Tryz.func106, Tryz.ntmps106
    go_wp2_with fail
    go_quiet ((first | (go_at_call 82; first | (refine Calls.quiet_of (r3Mul _ _ ?_ ?_ _) <;> omega) | (refine quiet_add (r3Mul _ _ ?_ ?_ _) <;> omega)) | (go_at_call 107; first | (refine Calls.quiet_of (r3Less _ _ ?_ ?_ _) <;> omega) | (refine quiet_add (r3Less _ _ ?_ ?_ _) <;> omega)) | (go_at_call 115; first | (refine Calls.quiet_of (r3Over _ _ ?_ ?_ _) <;> omega) | (refine quiet_add (r3Over _ _ ?_ ?_ _) <;> omega)) | (go_at_call 83; first | (refine Calls.quiet_of (r3Add _ _ ?_ ?_ _) <;> omega) | (refine quiet_add (r3Add _ _ ?_ ?_ _) <;> omega))))
    go_wp2_with fail
    go_ret
    exact ⟨by rw [hr.out]; rfl, by repeat (first | exact Below.refl _ _ | assumption | apply bDrewN | apply bDrew | apply bAlloc | refine bSet ?_ (by omega) | refine bThen ?_ (by assumption) (by simp <;> omega))⟩
end

/-- Three values that stand for a point, or Inf. -/
def IsO (p : Option (Nat × Nat)) (i : Bool) (X Y : Int) : Prop := match p with
  | .none => i = true ∧ X = 0 ∧ Y = 0
  | .some q => i = false ∧ X = (q.1 : Nat) ∧ Y = (q.2 : Nat)
def SumSaid (r : Option (Nat × Nat)) (w : World) (e : Ending) (w' : World) : Prop := (∃ i x y, IsO r i x y ∧ e = .returned (.agg #[.bool i, .int .u64 x, .int .u64 y])) ∧ Below w.heap.size w w'
set_option maxRecDepth 8000 in
set_option maxHeartbeats 4000000 in
theorem r3SumI (i : Bool) (X Y : Int) (w : World) : Calls Tryz.prog 84 #[ptV true 0 0, ptV i X Y] w fun e w' => e = .returned (ptV i X Y) ∧ Below w.heap.size w w' := by
  go_enter Tryz.func84, Tryz.ntmps84
  go_upto_region 1 with fail
  have hR1 := (((HR.refl w).new #[.bool true, .int .u64 0, .int .u64 0] 31).new #[.bool i, .int .u64 X, .int .u64 Y] 31).new #[.bool false, .int .u64 0, .int .u64 0] 31
  simp only [World.size_alloc] at hR1
  have hbw := hR1.lt (b := w.heap.size + 1 + 1) (cs := #[.bool false, .int .u64 0, .int .u64 0]) (t := 31) (by simp)
  generalize ((w.alloc (.cells #[.bool true, .int .u64 0, .int .u64 0] 31)).alloc (.cells #[.bool i, .int .u64 X, .int .u64 Y] 31)).alloc (.cells #[.bool false, .int .u64 0, .int .u64 0] 31) = w2 at hR1 hbw ⊢
  generalize hb4 : w.heap.size + 1 + 1 = b4 at hR1 hbw ⊢
  generalize hb2 : w.heap.size + 1 = b2 at hR1 ⊢
  generalize hb1 : w.heap.size = b1 at hR1 ⊢
  have hbs : Hid (w.heap.size ≤ b1 ∧ b1 < b2 ∧ b1 < b4 ∧ b2 < b4) := Lib.hid (by omega)
  have H0 : Hid (HR w w2 [(b4, #[.bool false, .int .u64 0, .int .u64 0], 31), (b2, #[.bool i, .int .u64 X, .int .u64 Y], 31), (b1, #[.bool true, .int .u64 0, .int .u64 0], 31)]) := Lib.hid hR1
  clear hb1 hb2 hb4 hR1 hbw
  have c_b1_0 := H0.out.cell (b := b1) (cs := #[.bool true, .int .u64 0, .int .u64 0]) (t := 31) (by simp) 0 rfl
  have c_b1_1 := H0.out.cell (b := b1) (cs := #[.bool true, .int .u64 0, .int .u64 0]) (t := 31) (by simp) 1 rfl
  have c_b1_2 := H0.out.cell (b := b1) (cs := #[.bool true, .int .u64 0, .int .u64 0]) (t := 31) (by simp) 2 rfl
  have c_b2_0 := H0.out.cell (b := b2) (cs := #[.bool i, .int .u64 X, .int .u64 Y]) (t := 31) (by simp) 0 rfl
  have c_b2_1 := H0.out.cell (b := b2) (cs := #[.bool i, .int .u64 X, .int .u64 Y]) (t := 31) (by simp) 1 rfl
  have c_b2_2 := H0.out.cell (b := b2) (cs := #[.bool i, .int .u64 X, .int .u64 Y]) (t := 31) (by simp) 2 rfl
  have c_b4_0 := H0.out.cell (b := b4) (cs := #[.bool false, .int .u64 0, .int .u64 0]) (t := 31) (by simp) 0 rfl
  have c_b4_1 := H0.out.cell (b := b4) (cs := #[.bool false, .int .u64 0, .int .u64 0]) (t := 31) (by simp) 1 rfl
  have c_b4_2 := H0.out.cell (b := b4) (cs := #[.bool false, .int .u64 0, .int .u64 0]) (t := 31) (by simp) 2 rfl
  have f_b4_0 := H0.out.free (b := b4) (cs := #[.bool false, .int .u64 0, .int .u64 0]) (t := 31) (by simp) 0
  have f_b4_1 := H0.out.free (b := b4) (cs := #[.bool false, .int .u64 0, .int .u64 0]) (t := 31) (by simp) 1
  have f_b4_2 := H0.out.free (b := b4) (cs := #[.bool false, .int .u64 0, .int .u64 0]) (t := 31) (by simp) 2
  have hL := Lib.hid (HR.put3 (u := .bool i) (v := .int .u64 X) (x := .int .u64 Y) (HR.sub (qs := [(b4, #[.bool false, .int .u64 0, .int .u64 0], 31)]) H0.out (by simp)) (by simp) (by have := hbs.out; omega))
  have s0 := hL.out.cell (b := b4) (cs := #[.bool i, .int .u64 X, .int .u64 Y]) (t := 31) (by simp) 0 rfl
  have s1 := hL.out.cell (b := b4) (cs := #[.bool i, .int .u64 X, .int .u64 Y]) (t := 31) (by simp) 1 rfl
  have s2 := hL.out.cell (b := b4) (cs := #[.bool i, .int .u64 X, .int .u64 Y]) (t := 31) (by simp) 2 rfl
  go_wp2_with fail
  refine bodyPost_ret (v := ptV i X Y) (by simp [results, Tryz.results84, go_sem, s0, s1, s2]) rfl ⟨rfl, hL.out.2⟩
set_option maxRecDepth 8000 in
set_option maxHeartbeats 4000000 in
theorem r3SumJ (X Y : Int) (w : World) : Calls Tryz.prog 84 #[ptV false X Y, ptV true 0 0] w fun e w' => e = .returned (ptV false X Y) ∧ Below w.heap.size w w' := by
  go_enter Tryz.func84, Tryz.ntmps84
  go_upto_region 1 with fail
  have hR1 := (((HR.refl w).new #[.bool false, .int .u64 X, .int .u64 Y] 31).new #[.bool true, .int .u64 0, .int .u64 0] 31).new #[.bool false, .int .u64 0, .int .u64 0] 31
  simp only [World.size_alloc] at hR1
  have hbw := hR1.lt (b := w.heap.size + 1 + 1) (cs := #[.bool false, .int .u64 0, .int .u64 0]) (t := 31) (by simp)
  generalize ((w.alloc (.cells #[.bool false, .int .u64 X, .int .u64 Y] 31)).alloc (.cells #[.bool true, .int .u64 0, .int .u64 0] 31)).alloc (.cells #[.bool false, .int .u64 0, .int .u64 0] 31) = w2 at hR1 hbw ⊢
  generalize hb4 : w.heap.size + 1 + 1 = b4 at hR1 hbw ⊢
  generalize hb2 : w.heap.size + 1 = b2 at hR1 ⊢
  generalize hb1 : w.heap.size = b1 at hR1 ⊢
  have hbs : Hid (w.heap.size ≤ b1 ∧ b1 < b2 ∧ b1 < b4 ∧ b2 < b4) := Lib.hid (by omega)
  have H0 : Hid (HR w w2 [(b4, #[.bool false, .int .u64 0, .int .u64 0], 31), (b2, #[.bool true, .int .u64 0, .int .u64 0], 31), (b1, #[.bool false, .int .u64 X, .int .u64 Y], 31)]) := Lib.hid hR1
  clear hb1 hb2 hb4 hR1 hbw
  have c_b1_0 := H0.out.cell (b := b1) (cs := #[.bool false, .int .u64 X, .int .u64 Y]) (t := 31) (by simp) 0 rfl
  have c_b1_1 := H0.out.cell (b := b1) (cs := #[.bool false, .int .u64 X, .int .u64 Y]) (t := 31) (by simp) 1 rfl
  have c_b1_2 := H0.out.cell (b := b1) (cs := #[.bool false, .int .u64 X, .int .u64 Y]) (t := 31) (by simp) 2 rfl
  have c_b2_0 := H0.out.cell (b := b2) (cs := #[.bool true, .int .u64 0, .int .u64 0]) (t := 31) (by simp) 0 rfl
  have c_b2_1 := H0.out.cell (b := b2) (cs := #[.bool true, .int .u64 0, .int .u64 0]) (t := 31) (by simp) 1 rfl
  have c_b2_2 := H0.out.cell (b := b2) (cs := #[.bool true, .int .u64 0, .int .u64 0]) (t := 31) (by simp) 2 rfl
  have c_b4_0 := H0.out.cell (b := b4) (cs := #[.bool false, .int .u64 0, .int .u64 0]) (t := 31) (by simp) 0 rfl
  have c_b4_1 := H0.out.cell (b := b4) (cs := #[.bool false, .int .u64 0, .int .u64 0]) (t := 31) (by simp) 1 rfl
  have c_b4_2 := H0.out.cell (b := b4) (cs := #[.bool false, .int .u64 0, .int .u64 0]) (t := 31) (by simp) 2 rfl
  have f_b4_0 := H0.out.free (b := b4) (cs := #[.bool false, .int .u64 0, .int .u64 0]) (t := 31) (by simp) 0
  have f_b4_1 := H0.out.free (b := b4) (cs := #[.bool false, .int .u64 0, .int .u64 0]) (t := 31) (by simp) 1
  have f_b4_2 := H0.out.free (b := b4) (cs := #[.bool false, .int .u64 0, .int .u64 0]) (t := 31) (by simp) 2
  have hL := Lib.hid (HR.put3 (u := .bool false) (v := .int .u64 X) (x := .int .u64 Y) (HR.sub (qs := [(b4, #[.bool false, .int .u64 0, .int .u64 0], 31)]) H0.out (by simp)) (by simp) (by have := hbs.out; omega))
  have s0 := hL.out.cell (b := b4) (cs := #[.bool false, .int .u64 X, .int .u64 Y]) (t := 31) (by simp) 0 rfl
  have s1 := hL.out.cell (b := b4) (cs := #[.bool false, .int .u64 X, .int .u64 Y]) (t := 31) (by simp) 1 rfl
  have s2 := hL.out.cell (b := b4) (cs := #[.bool false, .int .u64 X, .int .u64 Y]) (t := 31) (by simp) 2 rfl
  go_wp2_with fail
  refine bodyPost_ret (v := ptV false X Y) (by simp [results, Tryz.results84, go_sem, s0, s1, s2]) rfl ⟨rfl, hL.out.2⟩
set_option maxRecDepth 8000 in
set_option maxHeartbeats 4000000 in
theorem r3SumW (X Y A B : Int) (hW : ∀ w, Calls Tryz.prog 105 #[ptV false X Y, ptV false A B] w fun e w' => e = .returned (.bool true) ∧ Below w.heap.size w w') (w : World) : Calls Tryz.prog 84 #[ptV false X Y, ptV false A B] w fun e w' => e = .returned (ptV true 0 0) ∧ Below w.heap.size w w' := by
  have cW := Lib.hid hW
  clear hW
  go_enter Tryz.func84, Tryz.ntmps84
  go_upto_region 1 with fail
  have hR1 := (((HR.refl w).new #[.bool false, .int .u64 X, .int .u64 Y] 31).new #[.bool false, .int .u64 A, .int .u64 B] 31).new #[.bool false, .int .u64 0, .int .u64 0] 31
  simp only [World.size_alloc] at hR1
  have hbw := hR1.lt (b := w.heap.size + 1 + 1) (cs := #[.bool false, .int .u64 0, .int .u64 0]) (t := 31) (by simp)
  generalize ((w.alloc (.cells #[.bool false, .int .u64 X, .int .u64 Y] 31)).alloc (.cells #[.bool false, .int .u64 A, .int .u64 B] 31)).alloc (.cells #[.bool false, .int .u64 0, .int .u64 0] 31) = w2 at hR1 hbw ⊢
  generalize hb4 : w.heap.size + 1 + 1 = b4 at hR1 hbw ⊢
  generalize hb2 : w.heap.size + 1 = b2 at hR1 ⊢
  generalize hb1 : w.heap.size = b1 at hR1 ⊢
  have hbs : Hid (w.heap.size ≤ b1 ∧ b1 < b2 ∧ b1 < b4 ∧ b2 < b4) := Lib.hid (by omega)
  have H0 : Hid (HR w w2 [(b4, #[.bool false, .int .u64 0, .int .u64 0], 31), (b2, #[.bool false, .int .u64 A, .int .u64 B], 31), (b1, #[.bool false, .int .u64 X, .int .u64 Y], 31)]) := Lib.hid hR1
  clear hb1 hb2 hb4 hR1 hbw
  have c_b1_0 := H0.out.cell (b := b1) (cs := #[.bool false, .int .u64 X, .int .u64 Y]) (t := 31) (by simp) 0 rfl
  have c_b1_1 := H0.out.cell (b := b1) (cs := #[.bool false, .int .u64 X, .int .u64 Y]) (t := 31) (by simp) 1 rfl
  have c_b1_2 := H0.out.cell (b := b1) (cs := #[.bool false, .int .u64 X, .int .u64 Y]) (t := 31) (by simp) 2 rfl
  have c_b2_0 := H0.out.cell (b := b2) (cs := #[.bool false, .int .u64 A, .int .u64 B]) (t := 31) (by simp) 0 rfl
  have c_b2_1 := H0.out.cell (b := b2) (cs := #[.bool false, .int .u64 A, .int .u64 B]) (t := 31) (by simp) 1 rfl
  have c_b2_2 := H0.out.cell (b := b2) (cs := #[.bool false, .int .u64 A, .int .u64 B]) (t := 31) (by simp) 2 rfl
  go_wp2_with fail
  refine (cW.out _).mono ?_
  rintro e w3 ⟨rfl, hb3⟩
  have H3 := Lib.hid (H0.out.next hb3)
  clear hb3 H0
  clear c_b1_0 c_b1_1 c_b1_2 c_b2_0 c_b2_1 c_b2_2
  have c_b4_0 := H3.out.cell (b := b4) (cs := #[.bool false, .int .u64 0, .int .u64 0]) (t := 31) (by simp) 0 rfl
  have c_b4_1 := H3.out.cell (b := b4) (cs := #[.bool false, .int .u64 0, .int .u64 0]) (t := 31) (by simp) 1 rfl
  have c_b4_2 := H3.out.cell (b := b4) (cs := #[.bool false, .int .u64 0, .int .u64 0]) (t := 31) (by simp) 2 rfl
  have f_b4_0 := H3.out.free (b := b4) (cs := #[.bool false, .int .u64 0, .int .u64 0]) (t := 31) (by simp) 0
  have f_b4_1 := H3.out.free (b := b4) (cs := #[.bool false, .int .u64 0, .int .u64 0]) (t := 31) (by simp) 1
  have f_b4_2 := H3.out.free (b := b4) (cs := #[.bool false, .int .u64 0, .int .u64 0]) (t := 31) (by simp) 2
  have hL := Lib.hid (HR.put3 (u := .bool true) (v := .int .u64 0) (x := .int .u64 0) (HR.sub (qs := [(b4, #[.bool false, .int .u64 0, .int .u64 0], 31)]) H3.out (by simp)) (by simp) (by have := hbs.out; omega))
  have s0 := hL.out.cell (b := b4) (cs := #[.bool true, .int .u64 0, .int .u64 0]) (t := 31) (by simp) 0 rfl
  have s1 := hL.out.cell (b := b4) (cs := #[.bool true, .int .u64 0, .int .u64 0]) (t := 31) (by simp) 1 rfl
  have s2 := hL.out.cell (b := b4) (cs := #[.bool true, .int .u64 0, .int .u64 0]) (t := 31) (by simp) 2 rfl
  go_wp2_with fail
  refine bodyPost_ret (v := ptV true 0 0) (by simp [results, Tryz.results84, go_sem, s0, s1, s2]) rfl ⟨rfl, hL.out.2⟩
set_option maxRecDepth 8000 in
set_option maxHeartbeats 4000000 in
theorem r3SumL (X Y A B : Int) (hX : 0 ≤ X) (hY : 0 ≤ Y) (hA : 0 ≤ A) (hB : 0 ≤ B) (hW : ∀ w, Calls Tryz.prog 105 #[ptV false X Y, ptV false A B] w fun e w' => e = .returned (.bool false) ∧ Below w.heap.size w w') (w : World) : Calls Tryz.prog 84 #[ptV false X Y, ptV false A B] w fun e w' => e = .returned (ptV false (((Obol.lineC (Obol.slopeC (X.toNat, Y.toNat) (A.toNat, B.toNat)) (X.toNat, Y.toNat) (A.toNat, B.toNat)).1 : Nat) : Int) (((Obol.lineC (Obol.slopeC (X.toNat, Y.toNat) (A.toNat, B.toNat)) (X.toNat, Y.toNat) (A.toNat, B.toNat)).2 : Nat) : Int)) ∧ Below w.heap.size w w' := by
  have cW := Lib.hid hW
  have cS := fun w => r3Slope X Y A B hX hY hA hB w
  obtain ⟨l, hl0⟩ : ∃ n, Obol.slopeC (X.toNat, Y.toNat) (A.toNat, B.toNat) = n := ⟨_, rfl⟩
  rw [hl0] at cS
  have hl := Lib.hid hl0
  replace cS := Lib.hid cS
  clear hW hl0
  go_enter Tryz.func84, Tryz.ntmps84
  go_upto_region 1 with fail
  have hR1 := (((HR.refl w).new #[.bool false, .int .u64 X, .int .u64 Y] 31).new #[.bool false, .int .u64 A, .int .u64 B] 31).new #[.bool false, .int .u64 0, .int .u64 0] 31
  simp only [World.size_alloc] at hR1
  have hbw := hR1.lt (b := w.heap.size + 1 + 1) (cs := #[.bool false, .int .u64 0, .int .u64 0]) (t := 31) (by simp)
  generalize ((w.alloc (.cells #[.bool false, .int .u64 X, .int .u64 Y] 31)).alloc (.cells #[.bool false, .int .u64 A, .int .u64 B] 31)).alloc (.cells #[.bool false, .int .u64 0, .int .u64 0] 31) = w2 at hR1 hbw ⊢
  generalize hb4 : w.heap.size + 1 + 1 = b4 at hR1 hbw ⊢
  generalize hb2 : w.heap.size + 1 = b2 at hR1 ⊢
  generalize hb1 : w.heap.size = b1 at hR1 ⊢
  have hbs : Hid (w.heap.size ≤ b1 ∧ b1 < b2 ∧ b1 < b4 ∧ b2 < b4) := Lib.hid (by omega)
  have H0 : Hid (HR w w2 [(b4, #[.bool false, .int .u64 0, .int .u64 0], 31), (b2, #[.bool false, .int .u64 A, .int .u64 B], 31), (b1, #[.bool false, .int .u64 X, .int .u64 Y], 31)]) := Lib.hid hR1
  clear hb1 hb2 hb4 hR1 hbw
  have c_b1_0 := H0.out.cell (b := b1) (cs := #[.bool false, .int .u64 X, .int .u64 Y]) (t := 31) (by simp) 0 rfl
  have c_b1_1 := H0.out.cell (b := b1) (cs := #[.bool false, .int .u64 X, .int .u64 Y]) (t := 31) (by simp) 1 rfl
  have c_b1_2 := H0.out.cell (b := b1) (cs := #[.bool false, .int .u64 X, .int .u64 Y]) (t := 31) (by simp) 2 rfl
  have c_b2_0 := H0.out.cell (b := b2) (cs := #[.bool false, .int .u64 A, .int .u64 B]) (t := 31) (by simp) 0 rfl
  have c_b2_1 := H0.out.cell (b := b2) (cs := #[.bool false, .int .u64 A, .int .u64 B]) (t := 31) (by simp) 1 rfl
  have c_b2_2 := H0.out.cell (b := b2) (cs := #[.bool false, .int .u64 A, .int .u64 B]) (t := 31) (by simp) 2 rfl
  go_wp2_with fail
  refine (cW.out _).mono ?_
  rintro e w3 ⟨rfl, hb3⟩
  have H3 := Lib.hid (H0.out.next hb3)
  clear hb3 H0
  clear c_b1_0 c_b1_1 c_b1_2 c_b2_0 c_b2_1 c_b2_2
  have c_b1_0 := H3.out.cell (b := b1) (cs := #[.bool false, .int .u64 X, .int .u64 Y]) (t := 31) (by simp) 0 rfl
  have c_b1_1 := H3.out.cell (b := b1) (cs := #[.bool false, .int .u64 X, .int .u64 Y]) (t := 31) (by simp) 1 rfl
  have c_b1_2 := H3.out.cell (b := b1) (cs := #[.bool false, .int .u64 X, .int .u64 Y]) (t := 31) (by simp) 2 rfl
  have c_b2_0 := H3.out.cell (b := b2) (cs := #[.bool false, .int .u64 A, .int .u64 B]) (t := 31) (by simp) 0 rfl
  have c_b2_1 := H3.out.cell (b := b2) (cs := #[.bool false, .int .u64 A, .int .u64 B]) (t := 31) (by simp) 1 rfl
  have c_b2_2 := H3.out.cell (b := b2) (cs := #[.bool false, .int .u64 A, .int .u64 B]) (t := 31) (by simp) 2 rfl
  go_wp2_with fail
  refine (cS.out _).mono ?_
  rintro e w4 ⟨rfl, hb4⟩
  have H4 := Lib.hid (H3.out.next hb4)
  clear hb4 H3
  clear c_b1_0 c_b1_1 c_b1_2 c_b2_0 c_b2_1 c_b2_2
  have c_b1_0 := H4.out.cell (b := b1) (cs := #[.bool false, .int .u64 X, .int .u64 Y]) (t := 31) (by simp) 0 rfl
  have c_b1_1 := H4.out.cell (b := b1) (cs := #[.bool false, .int .u64 X, .int .u64 Y]) (t := 31) (by simp) 1 rfl
  have c_b1_2 := H4.out.cell (b := b1) (cs := #[.bool false, .int .u64 X, .int .u64 Y]) (t := 31) (by simp) 2 rfl
  have c_b2_0 := H4.out.cell (b := b2) (cs := #[.bool false, .int .u64 A, .int .u64 B]) (t := 31) (by simp) 0 rfl
  have c_b2_1 := H4.out.cell (b := b2) (cs := #[.bool false, .int .u64 A, .int .u64 B]) (t := 31) (by simp) 1 rfl
  have c_b2_2 := H4.out.cell (b := b2) (cs := #[.bool false, .int .u64 A, .int .u64 B]) (t := 31) (by simp) 2 rfl
  go_wp2_with fail
  go_quiet ((first | (go_at_call 82; first | (refine Calls.quiet_of (r3Mul _ _ ?_ ?_ _) <;> omega) | (refine quiet_add (r3Mul _ _ ?_ ?_ _) <;> omega)) | (go_at_call 107; first | (refine Calls.quiet_of (r3Less _ _ ?_ ?_ _) <;> omega) | (refine quiet_add (r3Less _ _ ?_ ?_ _) <;> omega)) | (go_at_call 83; first | (refine Calls.quiet_of (r3Add _ _ ?_ ?_ _) <;> omega) | (refine quiet_add (r3Add _ _ ?_ ?_ _) <;> omega))))
  go_wp2_with fail
  clear c_b1_0 c_b1_1 c_b1_2 c_b2_0 c_b2_1 c_b2_2
  have H7 := Lib.hid (HR.sub (qs := [(b2, #[.bool false, .int .u64 A, .int .u64 B], 31), (b1, #[.bool false, .int .u64 X, .int .u64 Y], 31)]) H4.out (by simp))
  have R2 := Lib.hid (H4.out.row (b := b4) (cs := #[.bool false, .int .u64 0, .int .u64 0]) (t := 31) (by simp))
  refine wp_region_noPanic ?_
  refine wp_region_held_drew (S := fun wq => wq.cell? ⟨b1, 0, none⟩ = some (.bool false) ∧ wq.cell? ⟨b1, 1, none⟩ = some (.int .u64 X) ∧ wq.cell? ⟨b1, 2, none⟩ = some (.int .u64 Y) ∧ HR w wq [(b2, #[.bool false, .int .u64 A, .int .u64 B], 31), (b1, #[.bool false, .int .u64 X, .int .u64 Y], 31)]) (by kernel_rfl) ?_ (fun hHeld => ?_)
  · exact ⟨HR.cell (HR.like H7.out rfl rfl rfl rfl) (b := b1) (cs := #[.bool false, .int .u64 X, .int .u64 Y]) (t := 31) (by simp) 0 rfl, HR.cell (HR.like H7.out rfl rfl rfl rfl) (b := b1) (cs := #[.bool false, .int .u64 X, .int .u64 Y]) (t := 31) (by simp) 1 rfl, HR.cell (HR.like H7.out rfl rfl rfl rfl) (b := b1) (cs := #[.bool false, .int .u64 X, .int .u64 Y]) (t := 31) (by simp) 2 rfl, (HR.like H7.out rfl rfl rfl rfl)⟩
  refine tk 0 hHeld ?_; refine tk 1 hHeld ?_; refine tk 2 hHeld ?_; refine tk 3 hHeld ?_; refine tk 4 hHeld ?_; refine tk 7 hHeld ?_; refine tk 8 hHeld ?_
  refine stepH 5 (by kernel_rfl) rfl (by rfl) (fun K hK => ?_)
  go_simp
  refine (r3Less _ _ (by omega) (by omega) _).mono ?_
  rintro e wq' ⟨rfl, nq1, rfl⟩
  refine hK.out _ _ ?_ (fun hHeld => ?_)
  · exact ⟨HR.cell (HR.like hHeld.2.2.2 rfl rfl rfl rfl) (b := b1) (cs := #[.bool false, .int .u64 X, .int .u64 Y]) (t := 31) (by simp) 0 rfl, HR.cell (HR.like hHeld.2.2.2 rfl rfl rfl rfl) (b := b1) (cs := #[.bool false, .int .u64 X, .int .u64 Y]) (t := 31) (by simp) 1 rfl, HR.cell (HR.like hHeld.2.2.2 rfl rfl rfl rfl) (b := b1) (cs := #[.bool false, .int .u64 X, .int .u64 Y]) (t := 31) (by simp) 2 rfl, (HR.like hHeld.2.2.2 rfl rfl rfl rfl)⟩
  clear hK K
  try simp only [Act.put, List.setIfInBounds_toArray, List.set_cons_zero, List.set_cons_succ]
  refine stepH 6 (by kernel_rfl) rfl (by rfl) (fun K hK => ?_)
  go_simp
  refine (r3Mul _ _ (by omega) (by omega) _).mono ?_
  rintro e wq' ⟨rfl, nq2, rfl⟩
  refine hK.out _ _ ?_ (fun hHeld => ?_)
  · exact ⟨HR.cell (HR.like hHeld.2.2.2 rfl rfl rfl rfl) (b := b1) (cs := #[.bool false, .int .u64 X, .int .u64 Y]) (t := 31) (by simp) 0 rfl, HR.cell (HR.like hHeld.2.2.2 rfl rfl rfl rfl) (b := b1) (cs := #[.bool false, .int .u64 X, .int .u64 Y]) (t := 31) (by simp) 1 rfl, HR.cell (HR.like hHeld.2.2.2 rfl rfl rfl rfl) (b := b1) (cs := #[.bool false, .int .u64 X, .int .u64 Y]) (t := 31) (by simp) 2 rfl, (HR.like hHeld.2.2.2 rfl rfl rfl rfl)⟩
  clear hK K
  try simp only [Act.put, List.setIfInBounds_toArray, List.set_cons_zero, List.set_cons_succ]
  refine stepH 9 (by kernel_rfl) rfl (by rfl) (fun K hK => ?_)
  go_simp
  refine (r3Less _ _ (by omega) (by omega) _).mono ?_
  rintro e wq' ⟨rfl, nq3, rfl⟩
  refine hK.out _ _ ?_ (fun hHeld => ?_)
  · exact ⟨HR.cell (HR.like hHeld.2.2.2 rfl rfl rfl rfl) (b := b1) (cs := #[.bool false, .int .u64 X, .int .u64 Y]) (t := 31) (by simp) 0 rfl, HR.cell (HR.like hHeld.2.2.2 rfl rfl rfl rfl) (b := b1) (cs := #[.bool false, .int .u64 X, .int .u64 Y]) (t := 31) (by simp) 1 rfl, HR.cell (HR.like hHeld.2.2.2 rfl rfl rfl rfl) (b := b1) (cs := #[.bool false, .int .u64 X, .int .u64 Y]) (t := 31) (by simp) 2 rfl, (HR.like hHeld.2.2.2 rfl rfl rfl rfl)⟩
  clear hK K
  try simp only [Act.put, List.setIfInBounds_toArray, List.set_cons_zero, List.set_cons_succ]
  refine tk 10 hHeld ?_
  have rc0 : ∀ n, (w4.drewN n).cell? ⟨b4, 0, none⟩ = some (.bool false) := fun n => (R2.out.drewN n).cell 0 rfl
  have rc1 : ∀ n, (w4.drewN n).cell? ⟨b4, 1, none⟩ = some (.int .u64 0) := fun n => (R2.out.drewN n).cell 1 rfl
  have rc2 : ∀ n, (w4.drewN n).cell? ⟨b4, 2, none⟩ = some (.int .u64 0) := fun n => (R2.out.drewN n).cell 2 rfl
  have rf0 : ∀ n, (w4.drewN n).frozen? ⟨b4, 0, none⟩ = false := fun n => (R2.out.drewN n).free 0
  have rf1 : ∀ n, (w4.drewN n).frozen? ⟨b4, 1, none⟩ = false := fun n => (R2.out.drewN n).free 1
  have rf2 : ∀ n, (w4.drewN n).frozen? ⟨b4, 2, none⟩ = false := fun n => (R2.out.drewN n).free 2
  refine stepH 11 (by kernel_rfl) rfl (by rfl) (fun K hK => ?_)
  go_simp
  refine hK.out _ _ ?_ (fun hHeld => ?_)
  · exact ⟨HR.cell (HR.other (HR.other (HR.other (H7.out.drewN _) (by simp; have := hbs.out; omega) (by have := hbs.out; omega)) (by simp; have := hbs.out; omega) (by have := hbs.out; omega)) (by simp; have := hbs.out; omega) (by have := hbs.out; omega)) (b := b1) (cs := #[.bool false, .int .u64 X, .int .u64 Y]) (t := 31) (by simp) 0 rfl, HR.cell (HR.other (HR.other (HR.other (H7.out.drewN _) (by simp; have := hbs.out; omega) (by have := hbs.out; omega)) (by simp; have := hbs.out; omega) (by have := hbs.out; omega)) (by simp; have := hbs.out; omega) (by have := hbs.out; omega)) (b := b1) (cs := #[.bool false, .int .u64 X, .int .u64 Y]) (t := 31) (by simp) 1 rfl, HR.cell (HR.other (HR.other (HR.other (H7.out.drewN _) (by simp; have := hbs.out; omega) (by have := hbs.out; omega)) (by simp; have := hbs.out; omega) (by have := hbs.out; omega)) (by simp; have := hbs.out; omega) (by have := hbs.out; omega)) (b := b1) (cs := #[.bool false, .int .u64 X, .int .u64 Y]) (t := 31) (by simp) 2 rfl, (HR.other (HR.other (HR.other (H7.out.drewN _) (by simp; have := hbs.out; omega) (by have := hbs.out; omega)) (by simp; have := hbs.out; omega) (by have := hbs.out; omega)) (by simp; have := hbs.out; omega) (by have := hbs.out; omega))⟩
  clear hK K
  try simp only [Act.put, List.setIfInBounds_toArray, List.set_cons_zero, List.set_cons_succ]
  refine wpAnyH_done (by kernel_rfl) (NoPanic.normal ?_) _
  have hL := Lib.hid hHeld.2.2.2.2
  clear hHeld rc0 rc1 rc2 rf0 rf1 rf2
  have s0 : ∀ n v0 v1 v2, ((((w4.drewN n).setCell ⟨b4, 0, none⟩ v0).setCell ⟨b4, 1, none⟩ v1).setCell ⟨b4, 2, none⟩ v2).cell? ⟨b4, 0, none⟩ = some v0 := fun n v0 v1 v2 => (R2.out.drewN n).set3.cell 0 rfl
  have s1 : ∀ n v0 v1 v2, ((((w4.drewN n).setCell ⟨b4, 0, none⟩ v0).setCell ⟨b4, 1, none⟩ v1).setCell ⟨b4, 2, none⟩ v2).cell? ⟨b4, 1, none⟩ = some v1 := fun n v0 v1 v2 => (R2.out.drewN n).set3.cell 1 rfl
  have s2 : ∀ n v0 v1 v2, ((((w4.drewN n).setCell ⟨b4, 0, none⟩ v0).setCell ⟨b4, 1, none⟩ v1).setCell ⟨b4, 2, none⟩ v2).cell? ⟨b4, 2, none⟩ = some v2 := fun n v0 v1 v2 => (R2.out.drewN n).set3.cell 2 rfl
  go_wp2_with fail
  refine bodyPost_ret (v := ptV false _ _) (by simp [results, Tryz.results84, go_sem, s0, s1, s2]; try exact ⟨rfl, rfl⟩) rfl ⟨?_, hL.out⟩
  unfold Obol.lineC
  simp only [hl.out]

theorem sumC_ss (p q : Nat × Nat) : Obol.sumC (.some p) (.some q) = if p.1 = q.1 ∧ Obol.addP p.2 q.2 = 0 then Option.none else .some (Obol.lineC (Obol.slopeC p q) p q) := rfl
theorem r3Sum (p q : Option (Nat × Nat)) (i : Bool) (X Y : Int) (j : Bool) (A B : Int) (hp : IsO p i X Y) (hq : IsO q j A B) (w : World) :
    Calls Tryz.prog 84 #[ptV i X Y, ptV j A B] w (SumSaid (Obol.sumC p q) w) := by
  cases p with
  | none =>
    obtain ⟨rfl, rfl, rfl⟩ := hp
    exact (r3SumI j A B w).mono fun e w' ⟨h1, h2⟩ => ⟨⟨j, A, B, hq, h1⟩, h2⟩
  | some p =>
    cases q with
    | none =>
      obtain ⟨rfl, rfl, rfl⟩ := hp
      obtain ⟨rfl, rfl, rfl⟩ := hq
      exact (r3SumJ _ _ w).mono fun e w' ⟨h1, h2⟩ => ⟨⟨false, _, _, ⟨rfl, rfl, rfl⟩, h1⟩, h2⟩
    | some q =>
      obtain ⟨rfl, rfl, rfl⟩ := hp
      obtain ⟨rfl, rfl, rfl⟩ := hq
      have key : ∀ (_ : ¬ (p.1 = q.1 ∧ Obol.addP p.2 q.2 = 0)) (_ : ∀ w, Calls Tryz.prog 105 #[ptV false (p.1 : Nat) (p.2 : Nat), ptV false (q.1 : Nat) (q.2 : Nat)] w fun e w' => e = .returned (.bool false) ∧ Below w.heap.size w w'),
          Calls Tryz.prog 84 #[ptV false (p.1 : Nat) (p.2 : Nat), ptV false (q.1 : Nat) (q.2 : Nat)] w (SumSaid (Obol.sumC (.some p) (.some q)) w) := fun hn hw =>
        (r3SumL _ _ _ _ (by omega) (by omega) (by omega) (by omega) hw w).mono fun e w' ⟨h1, h2⟩ => by
          refine ⟨⟨false, _, _, ?_, h1⟩, h2⟩
          rw [sumC_ss, if_neg hn]
          simp only [Int.toNat_natCast]
          exact ⟨rfl, rfl, rfl⟩
      by_cases hx : p.1 = q.1
      · by_cases hs : Obol.addP p.2 q.2 = 0
        · refine (r3SumW _ _ _ _ (fun w => ?_) w).mono fun e w' ⟨h1, h2⟩ => ⟨⟨true, 0, 0, ?_, h1⟩, h2⟩
          · rw [← hx]
            exact r3WallY _ _ _ _ (by omega) (by omega) (by omega : (0 : Int) ≤ 0) (by omega) w (by rw [Int.toNat_natCast, Int.toNat_natCast]; exact hs)
          · rw [sumC_ss, if_pos ⟨hx, hs⟩]
            exact ⟨rfl, rfl, rfl⟩
        · refine key (fun h => hs h.2) (fun w => ?_)
          rw [← hx]
          exact r3WallS _ _ _ _ (by omega) (by omega) (by omega : (0 : Int) ≤ 0) (by omega) w (Obol.addP p.2 q.2) (by rw [Int.toNat_natCast, Int.toNat_natCast]) hs
      · exact key (fun h => hx h.1) (fun w => r3WallN _ _ _ _ (by omega) (by omega) (by omega) (by omega) w (by omega))

end Go.Proofs.YtkfimfjjmdjbdaaGreatDoor
/- Walks: the reference of layer 3: multiples, points of order R. -/
namespace Go.Proofs.YtkfimfjjmdjbdaaGreatDoor
open Go.RowKit
set_option linter.unusedVariables false

noncomputable def timO (a : Option (Nat × Nat)) (k : Nat) : Nat → Option (Nat × Nat) → Option (Nat × Nat)
  | 0, out => out
  | j + 1, out => timO a k j (if k / 2 ^ j % 2 = 1 then Obol.sumC (Obol.sumC out out) a else Obol.sumC out out)
theorem timO_some (a : Nat × Nat) (k : Nat) : ∀ j o, timO (.some a) k j o = Obol.timC a k j o
  | 0, _ => rfl
  | j + 1, o => by rw [timO, Obol.timC, timO_some a k j]
theorem timO_none (k : Nat) : ∀ j, timO Option.none k j Option.none = Option.none
  | 0 => rfl
  | j + 1 => by
    rw [timO]
    have h : (if k / 2 ^ j % 2 = 1 then Obol.sumC (Obol.sumC Option.none Option.none) Option.none else Obol.sumC Option.none Option.none) = Option.none := by split <;> rfl
    rw [h]
    exact timO_none k j
structure TimI (a : Option (Nat × Nat)) (k : Nat) (p : Option (Nat × Nat)) (oi : Bool) (ox oy c : Int) : Prop where
  c0 : 0 ≤ c
  c1 : c ≤ 64
  is : IsO p oi ox oy
  eq : timO a k (64 - c.toNat) p = timO a k 64 Option.none
theorem TimI.one {a p : Option (Nat × Nat)} {k : Nat} {oi : Bool} {ox oy c y : Int} (h : TimI a k p oi ox oy c) (hk : k = y.toNat) (hy : 0 ≤ y) (hc : c < 64) (hb : bitI y c = 1) {oi' : Bool} {ox' oy' : Int} (hs : IsO (Obol.sumC (Obol.sumC p p) a) oi' ox' oy') :
    TimI a k (Obol.sumC (Obol.sumC p p) a) oi' ox' oy' (c + 1) := by
  have c0 := h.c0
  refine ⟨by omega, by omega, hs, ?_⟩
  have he := h.eq
  have hb2 := bitI_toNat y c hy c0 hc
  rw [show 64 - c.toNat = (63 - c.toNat) + 1 by omega, timO, if_pos (by rw [hk]; omega)] at he
  rw [show 64 - (c + 1).toNat = 63 - c.toNat by omega]
  exact he
theorem TimI.zero {a p : Option (Nat × Nat)} {k : Nat} {oi : Bool} {ox oy c y : Int} (h : TimI a k p oi ox oy c) (hk : k = y.toNat) (hy : 0 ≤ y) (hc : c < 64) (hb : bitI y c = 0) {oi' : Bool} {ox' oy' : Int} (hs : IsO (Obol.sumC p p) oi' ox' oy') :
    TimI a k (Obol.sumC p p) oi' ox' oy' (c + 1) := by
  have c0 := h.c0
  refine ⟨by omega, by omega, hs, ?_⟩
  have he := h.eq
  have hb2 := bitI_toNat y c hy c0 hc
  rw [show 64 - c.toNat = (63 - c.toNat) + 1 by omega, timO, if_neg (by rw [hk]; omega)] at he
  rw [show 64 - (c + 1).toNat = 63 - c.toNat by omega]
  exact he
theorem TimI.done {a p : Option (Nat × Nat)} {k : Nat} {oi : Bool} {ox oy c : Int} (h : TimI a k p oi ox oy c) (hc : ¬ c < 64) : IsO (timO a k 64 Option.none) oi ox oy := by
  have c1 := h.c1
  have he := h.eq
  rw [show 64 - c.toNat = 0 by omega, timO] at he
  rw [← he]
  exact h.is

set_option maxRecDepth 8000 in
set_option maxHeartbeats 8000000 in
theorem r3Times (a : Option (Nat × Nat)) (i : Bool) (X Y k : Int) (ha0 : IsO a i X Y) (hk : 0 ≤ k) (hk1 : k ≤ 18446744073709551615) (w : World) :
    Calls Tryz.prog 56 #[ptV i X Y, .int .u64 k] w (SumSaid (timO a k.toNat 64 Option.none) w) := by
  have ha := Lib.hid ha0
  have I0 : Hid (TimI a k.toNat Option.none true 0 0 0) := Lib.hid ⟨by omega, by omega, ⟨rfl, rfl, rfl⟩, rfl⟩
  clear ha0
  go_enter Tryz.func56, Tryz.ntmps56
  go_upto_region 1 with fail
  have hR1 := ((HR.refl w).new #[.bool i, .int .u64 X, .int .u64 Y] 31).new #[.bool false, .int .u64 0, .int .u64 0] 31
  simp only [World.size_alloc] at hR1
  have hbw := hR1.lt (b := w.heap.size + 1) (cs := #[.bool false, .int .u64 0, .int .u64 0]) (t := 31) (by simp)
  generalize (w.alloc (.cells #[.bool i, .int .u64 X, .int .u64 Y] 31)).alloc (.cells #[.bool false, .int .u64 0, .int .u64 0] 31) = w2 at hR1 hbw ⊢
  generalize hb4 : w.heap.size + 1 = b4 at hR1 hbw ⊢
  generalize hb1 : w.heap.size = b1 at hR1 ⊢
  have hbs : Hid (w.heap.size ≤ b1 ∧ b1 < b4 ∧ b4 < w2.heap.size) := Lib.hid (by omega)
  have H0 : Hid (HR w w2 [(b4, #[.bool false, .int .u64 0, .int .u64 0], 31), (b1, #[.bool i, .int .u64 X, .int .u64 Y], 31)]) := Lib.hid hR1
  clear hb1 hb4 hR1 hbw
  go_upto_region 2 with fail
  have hR5 := H0.out.new #[.bool true, .int .u64 0, .int .u64 0] 31
  have hlt5 := hbs.out
  generalize w2.alloc (.cells #[.bool true, .int .u64 0, .int .u64 0] 31) = w3 at hR5 ⊢
  generalize w2.heap.size = b5 at hR5 hlt5 ⊢
  have H3 : Hid (HR w w3 [(b5, #[.bool true, .int .u64 0, .int .u64 0], 31), (b4, #[.bool false, .int .u64 0, .int .u64 0], 31), (b1, #[.bool i, .int .u64 X, .int .u64 Y], 31)]) := Lib.hid hR5
  have hbt : Hid (w.heap.size ≤ b1 ∧ b1 < b4 ∧ b4 < b5) := Lib.hid hlt5
  clear H0 hR5 hlt5 hbs
  go_wp2_with fail
  go_loopw [6] (fun q wr => ∃ (p : Option (Nat × Nat)) (oi : Bool) (ox oy c : Int), q = .int .i64 c ∧ Hid (HR w wr [(b5, #[.bool oi, .int .u64 ox, .int .u64 oy], 31), (b4, #[.bool false, .int .u64 0, .int .u64 0], 31), (b1, #[.bool i, .int .u64 X, .int .u64 Y], 31)]) ∧ Hid (TimI a k.toNat p oi ox oy c)) (fun q _ => (64 - intOf q).toNat)
  case atStart => exact ⟨Option.none, true, 0, 0, 0, rfl, H3, I0⟩
  case round =>
    clear H3 I0
    obtain ⟨p, oi, ox, oy, c, rfl, HR0, HI⟩ := hrel
    have i0 := HI.out.c0
    have i1 := HI.out.c1
    have ea := bitI_bits k c hk hk1
    by_cases hi : c < 64
    · have cS := Lib.hid (fun W => r3Sum p p oi ox oy oi ox oy HI.out.is HI.out.is W)
      have c_b5_0 := HR0.out.cell (b := b5) (cs := #[.bool oi, .int .u64 ox, .int .u64 oy]) (t := 31) (by simp) 0 rfl
      have c_b5_1 := HR0.out.cell (b := b5) (cs := #[.bool oi, .int .u64 ox, .int .u64 oy]) (t := 31) (by simp) 1 rfl
      have c_b5_2 := HR0.out.cell (b := b5) (cs := #[.bool oi, .int .u64 ox, .int .u64 oy]) (t := 31) (by simp) 2 rfl
      have c_b1_0 := HR0.out.cell (b := b1) (cs := #[.bool i, .int .u64 X, .int .u64 Y]) (t := 31) (by simp) 0 rfl
      have c_b1_1 := HR0.out.cell (b := b1) (cs := #[.bool i, .int .u64 X, .int .u64 Y]) (t := 31) (by simp) 1 rfl
      have c_b1_2 := HR0.out.cell (b := b1) (cs := #[.bool i, .int .u64 X, .int .u64 Y]) (t := 31) (by simp) 2 rfl
      go_wp2_with fail
      refine (cS.out _).mono ?_
      rintro e v1 ⟨⟨xi, xx, xy, hx, rfl⟩, hv1⟩
      have K1 := Lib.hid (HR0.out.next hv1)
      have hX := Lib.hid hx
      clear c_b5_0 c_b5_1 c_b5_2 c_b1_0 c_b1_1 c_b1_2
      clear hv1 hx HR0 cS
      have c_b5_0 := K1.out.cell (b := b5) (cs := #[.bool oi, .int .u64 ox, .int .u64 oy]) (t := 31) (by simp) 0 rfl
      have c_b5_1 := K1.out.cell (b := b5) (cs := #[.bool oi, .int .u64 ox, .int .u64 oy]) (t := 31) (by simp) 1 rfl
      have c_b5_2 := K1.out.cell (b := b5) (cs := #[.bool oi, .int .u64 ox, .int .u64 oy]) (t := 31) (by simp) 2 rfl
      have f_b5_0 := K1.out.free (b := b5) (cs := #[.bool oi, .int .u64 ox, .int .u64 oy]) (t := 31) (by simp) 0
      have f_b5_1 := K1.out.free (b := b5) (cs := #[.bool oi, .int .u64 ox, .int .u64 oy]) (t := 31) (by simp) 1
      have f_b5_2 := K1.out.free (b := b5) (cs := #[.bool oi, .int .u64 ox, .int .u64 oy]) (t := 31) (by simp) 2
      rcases bitI_01 k c with hB | hB
      · have HN := Lib.hid (HI.out.zero rfl hk hi hB hX.out)
        rw [hB] at ea
        replace hB := Lib.hid hB
        go_wp2_with fail
        clear c_b5_0 c_b5_1 c_b5_2 f_b5_0 f_b5_1 f_b5_2
        exact ⟨⟨_, _, _, _, _, rfl, Lib.hid (HR.put3 K1.out (by have := hbt.out; simp; omega) (by have := hbt.out; omega)), HN⟩, by simp [intOf]; omega⟩
      · have HN := fun oi' ox' oy' hs => Lib.hid (HI.out.one (oi' := oi') (ox' := ox') (oy' := oy') rfl hk hi hB hs)
        have cT := Lib.hid (fun W => r3Sum (Obol.sumC p p) a xi xx xy i X Y hX.out ha.out W)
        rw [hB] at ea
        replace hB := Lib.hid hB
        replace HN := Lib.hid HN
        go_upto_region 6 with fail
        have J1 := Lib.hid (HR.put3 (u := .bool xi) (v := .int .u64 xx) (x := .int .u64 xy) K1.out (by have := hbt.out; simp; omega) (by have := hbt.out; omega))
        clear c_b5_0 c_b5_1 c_b5_2 f_b5_0 f_b5_1 f_b5_2
        generalize ((v1.setCell ⟨b5, 0, none⟩ (.bool xi)).setCell ⟨b5, 1, none⟩ (.int .u64 xx)).setCell ⟨b5, 2, none⟩ (.int .u64 xy) = m1 at J1 ⊢
        clear K1
        have c_b5_0 := J1.out.cell (b := b5) (cs := #[.bool xi, .int .u64 xx, .int .u64 xy]) (t := 31) (by simp) 0 rfl
        have c_b5_1 := J1.out.cell (b := b5) (cs := #[.bool xi, .int .u64 xx, .int .u64 xy]) (t := 31) (by simp) 1 rfl
        have c_b5_2 := J1.out.cell (b := b5) (cs := #[.bool xi, .int .u64 xx, .int .u64 xy]) (t := 31) (by simp) 2 rfl
        have c_b1_0 := J1.out.cell (b := b1) (cs := #[.bool i, .int .u64 X, .int .u64 Y]) (t := 31) (by simp) 0 rfl
        have c_b1_1 := J1.out.cell (b := b1) (cs := #[.bool i, .int .u64 X, .int .u64 Y]) (t := 31) (by simp) 1 rfl
        have c_b1_2 := J1.out.cell (b := b1) (cs := #[.bool i, .int .u64 X, .int .u64 Y]) (t := 31) (by simp) 2 rfl
        go_wp2_with fail
        refine (cT.out _).mono ?_
        rintro e v2 ⟨⟨yi, yx, yy, hy, rfl⟩, hv2⟩
        have K2 := Lib.hid (J1.out.next hv2)
        have hY := Lib.hid (HN.out yi yx yy hy)
        clear c_b5_0 c_b5_1 c_b5_2 c_b1_0 c_b1_1 c_b1_2
        clear hv2 hy J1 cT HN
        have c_b5_0 := K2.out.cell (b := b5) (cs := #[.bool xi, .int .u64 xx, .int .u64 xy]) (t := 31) (by simp) 0 rfl
        have c_b5_1 := K2.out.cell (b := b5) (cs := #[.bool xi, .int .u64 xx, .int .u64 xy]) (t := 31) (by simp) 1 rfl
        have c_b5_2 := K2.out.cell (b := b5) (cs := #[.bool xi, .int .u64 xx, .int .u64 xy]) (t := 31) (by simp) 2 rfl
        have f_b5_0 := K2.out.free (b := b5) (cs := #[.bool xi, .int .u64 xx, .int .u64 xy]) (t := 31) (by simp) 0
        have f_b5_1 := K2.out.free (b := b5) (cs := #[.bool xi, .int .u64 xx, .int .u64 xy]) (t := 31) (by simp) 1
        have f_b5_2 := K2.out.free (b := b5) (cs := #[.bool xi, .int .u64 xx, .int .u64 xy]) (t := 31) (by simp) 2
        go_wp2_with fail
        clear c_b5_0 c_b5_1 c_b5_2 f_b5_0 f_b5_1 f_b5_2
        exact ⟨⟨_, _, _, _, _, rfl, Lib.hid (HR.put3 K2.out (by have := hbt.out; simp; omega) (by have := hbt.out; omega)), hY.out⟩, by simp [intOf]; omega⟩
    · have hD := Lib.hid (HI.out.done hi)
      have c_b5_0 := HR0.out.cell (b := b5) (cs := #[.bool oi, .int .u64 ox, .int .u64 oy]) (t := 31) (by simp) 0 rfl
      have c_b5_1 := HR0.out.cell (b := b5) (cs := #[.bool oi, .int .u64 ox, .int .u64 oy]) (t := 31) (by simp) 1 rfl
      have c_b5_2 := HR0.out.cell (b := b5) (cs := #[.bool oi, .int .u64 ox, .int .u64 oy]) (t := 31) (by simp) 2 rfl
      have c_b4_0 := HR0.out.cell (b := b4) (cs := #[.bool false, .int .u64 0, .int .u64 0]) (t := 31) (by simp) 0 rfl
      have c_b4_1 := HR0.out.cell (b := b4) (cs := #[.bool false, .int .u64 0, .int .u64 0]) (t := 31) (by simp) 1 rfl
      have c_b4_2 := HR0.out.cell (b := b4) (cs := #[.bool false, .int .u64 0, .int .u64 0]) (t := 31) (by simp) 2 rfl
      have f_b4_0 := HR0.out.free (b := b4) (cs := #[.bool false, .int .u64 0, .int .u64 0]) (t := 31) (by simp) 0
      have f_b4_1 := HR0.out.free (b := b4) (cs := #[.bool false, .int .u64 0, .int .u64 0]) (t := 31) (by simp) 1
      have f_b4_2 := HR0.out.free (b := b4) (cs := #[.bool false, .int .u64 0, .int .u64 0]) (t := 31) (by simp) 2
      have hL := Lib.hid (HR.put3 (u := .bool oi) (v := .int .u64 ox) (x := .int .u64 oy) (HR.sub (qs := [(b4, #[.bool false, .int .u64 0, .int .u64 0], 31)]) HR0.out (by simp)) (by simp) (by have := hbt.out; omega))
      have s0 := hL.out.cell (b := b4) (cs := #[.bool oi, .int .u64 ox, .int .u64 oy]) (t := 31) (by simp) 0 rfl
      have s1 := hL.out.cell (b := b4) (cs := #[.bool oi, .int .u64 ox, .int .u64 oy]) (t := 31) (by simp) 1 rfl
      have s2 := hL.out.cell (b := b4) (cs := #[.bool oi, .int .u64 ox, .int .u64 oy]) (t := 31) (by simp) 2 rfl
      go_wp2_with fail
      refine bodyPost_ret (v := ptV oi ox oy) (by simp [results, Tryz.results56, go_sem, s0, s1, s2]) rfl ⟨⟨_, _, _, hD.out, rfl⟩, hL.out.2⟩

theorem r3field_inf (b : Bool) (x y : Value) (w : World) : (Instr.field 31 (.agg #[.bool b, x, y]) 0).run Tryz.prog w = .ok (.bool b) w := by kernel_rfl
def ptO (i : Bool) (X Y : Int) : Option (Nat × Nat) := if i = true then Option.none else .some (X.toNat, Y.toNat)
theorem ptO_is {i : Bool} {X Y : Int} (h : isPt i X Y = true) (hX : 0 ≤ X) (hY : 0 ≤ Y) : IsO (ptO i X Y) i X Y := by
  cases i
  · exact ⟨rfl, (Int.toNat_of_nonneg hX).symm, (Int.toNat_of_nonneg hY).symm⟩
  · have h2 : (X == 0 && Y == 0) = true := h
    have h1 : X = 0 ∧ Y = 0 := by simpa using h2
    exact ⟨rfl, h1.1, h1.2⟩
theorem infC_times {i : Bool} {X Y : Int} {k : Nat} {oi : Bool} {ox oy : Int} (h : IsO (timO (ptO i X Y) k 64 Option.none) oi ox oy) : oi = infC i X Y k := by
  cases i
  · have h2 : timO (ptO false X Y) k 64 Option.none = Obol.timC (X.toNat, Y.toNat) k 64 Option.none := timO_some _ _ _ _
    rw [h2] at h
    unfold infC
    rw [Bool.false_or]
    cases hT : Obol.timC (X.toNat, Y.toNat) k 64 Option.none with
    | none => rw [hT] at h; exact h.1
    | some q => rw [hT] at h; exact h.1
  · have h2 : timO (ptO true X Y) k 64 Option.none = Option.none := timO_none _ _
    rw [h2] at h
    exact h.1

set_option maxRecDepth 8000 in
theorem r3In (i : Bool) (X Y : Int) (hX : 0 ≤ X) (hY : 0 ≤ Y) (w : World) :
    Calls Tryz.prog 27 #[ptV i X Y] w fun e w' => e = .returned (.bool (inPt i X Y)) ∧ Below w.heap.size w w' := by
  cases hp : isPt i X Y
  · have hI := Lib.hid hp
    have hR : Hid (inPt i X Y = false) := Lib.hid (by unfold inPt; rw [hp, Bool.false_and])
    clear hp
    go_enter Tryz.func27, Tryz.ntmps27
    go_wp2_with (go_at_call 55; refine (r3Is _ _ _ hX hY _).mono ?_; rintro e w1 ⟨rfl, hb⟩; rw [hI.out]; obtain ⟨hc, hf⟩ := bcell hb; have hz := hb.size; (try simp at hz))
    go_ret
    exact ⟨by rw [hR.out]; rfl, by repeat (first | exact Below.refl _ _ | assumption | apply bDrewN | apply bDrew | apply bAlloc | refine bSet ?_ (by omega) | refine bThen ?_ (by assumption) (by simp <;> omega))⟩
  · have hI := Lib.hid hp
    have hR : Hid (inPt i X Y = infC i X Y Obol.R) := Lib.hid (by unfold inPt; rw [hp, Bool.true_and])
    have hM := Lib.hid (fun w => r3Times (ptO i X Y) i X Y 288230376287764481 (ptO_is hp hX hY) (by omega) (by omega) w)
    rw [litR] at hM
    have hfl := r3field_inf
    clear hp
    go_enter Tryz.func27, Tryz.ntmps27
    go_wp2_with (first | (go_at_call 55; refine (r3Is _ _ _ hX hY _).mono ?_; rintro e w1 ⟨rfl, hb⟩; rw [hI.out]; obtain ⟨hc, hf⟩ := bcell hb; have hz := hb.size; (try simp at hz)) | (go_at_call 56; refine (hM.out _).mono ?_; rintro e w2 ⟨⟨oi, ox, oy, ho, rfl⟩, hb2⟩; have hO := Lib.hid (infC_times ho); clear ho; replace hb := bThen hb hb2 hb.size; clear hb2; obtain ⟨hc2, hf2⟩ := bcell hb; have hz2 := hb.size; (try simp at hz2)))
    go_ret
    exact ⟨by rw [hR.out, ← hO.out]; rfl, by repeat (first | exact Below.refl _ _ | assumption | apply bDrewN | apply bDrew | apply bAlloc | refine bSet ?_ (by omega) | refine bThen ?_ (by assumption) (by simp <;> omega))⟩

end Go.Proofs.YtkfimfjjmdjbdaaGreatDoor
