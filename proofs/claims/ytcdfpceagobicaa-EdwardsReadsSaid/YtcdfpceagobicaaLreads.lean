import Derived.Test.YtcdfpceagobicaaWstr
/- The walk of the law EdwardsReads. -/
namespace Go.Proofs.Ytcdfpceagobicaa
open Go.RowKit

theorem walkReadsNo (ao : Option Addr) (len cap : Nat) (h : len ≠ 8) (hl : len ≤ 9223372036854775807) (w : World) :
    Calls Try.prog 3 #[.slice ao len cap] w fun e w' => e = .returned (.bool true) ∧ Below w.heap.size w w' := by
  have hn : ((len : Int) != 8) = true := bne_iff_ne.2 (by omega)
  have cR := Lib.hid (fun w => eReadNo ao len cap h hl w)
  replace h := Lib.hid h
  have hE := fun W => eqErr W 3 3
  go_enter Try.func3, Try.ntmps3
  go_wp2_with fail
  refine (up7 _).mono ?_
  rintro e w1 ⟨rfl, hb1⟩
  go_wp2_with fail
  refine (cR.out _).mono ?_
  rintro e w2 ⟨rfl, hb2⟩
  replace hb1 := Lib.hid (hb1.trans (hb2.mono hb1.size))
  clear hb2
  go_wp2_with fail
  go_ret
  exact ⟨rfl, bAlloc hb1.out _⟩

/-- What the region holds on to. -/
theorem held_reads {w w1 : World} {k b o cap : Nat} {X Y : Int} {L : List Nat} {t : TypeId} (h : Row w1 k #[.int .u64 X, .int .u64 Y] t) (hc : BL w1 b o L) (hL : L.length = 8) (hb : Below w.heap.size w w1) :
    w1.cell? ⟨k, 0, none⟩ = some (.int .u64 X) ∧ w1.cell? ⟨k, 1, none⟩ = some (.int .u64 Y) ∧ (convert 22 9 (.slice (some ⟨b, o, none⟩) 8 cap)).run Try.prog w1 = .ok (.string (strB L)) w1 ∧ Row w1 k #[.int .u64 X, .int .u64 Y] t ∧ BL w1 b o L ∧ Below w.heap.size w w1 :=
  ⟨h.cell 0 rfl, h.cell 1 rfl, conv8 hc hL, h, hc, hb⟩
theorem held_reads_drew {w w1 : World} {k b o cap : Nat} {X Y : Int} {L : List Nat} {t : TypeId}
    (h : w1.cell? ⟨k, 0, none⟩ = some (.int .u64 X) ∧ w1.cell? ⟨k, 1, none⟩ = some (.int .u64 Y) ∧ (convert 22 9 (.slice (some ⟨b, o, none⟩) 8 cap)).run Try.prog w1 = .ok (.string (strB L)) w1 ∧ Row w1 k #[.int .u64 X, .int .u64 Y] t ∧ BL w1 b o L ∧ Below w.heap.size w w1) (hL : L.length = 8) :
    w1.drew.cell? ⟨k, 0, none⟩ = some (.int .u64 X) ∧ w1.drew.cell? ⟨k, 1, none⟩ = some (.int .u64 Y) ∧ (convert 22 9 (.slice (some ⟨b, o, none⟩) 8 cap)).run Try.prog w1.drew = .ok (.string (strB L)) w1.drew ∧ Row w1.drew k #[.int .u64 X, .int .u64 Y] t ∧ BL w1.drew b o L ∧ Below w.heap.size w w1.drew :=
  held_reads h.2.2.2.1.drew (fun i hi => h.2.2.2.2.1 i hi) hL (bDrew h.2.2.2.2.2)
theorem held_reads_next {w w1 w2 : World} {k b o cap : Nat} {X Y : Int} {L : List Nat} {t : TypeId}
    (h : w1.cell? ⟨k, 0, none⟩ = some (.int .u64 X) ∧ w1.cell? ⟨k, 1, none⟩ = some (.int .u64 Y) ∧ (convert 22 9 (.slice (some ⟨b, o, none⟩) 8 cap)).run Try.prog w1 = .ok (.string (strB L)) w1 ∧ Row w1 k #[.int .u64 X, .int .u64 Y] t ∧ BL w1 b o L ∧ Below w.heap.size w w1) (hb : Below w1.heap.size w1 w2) (hlt : b < w.heap.size) (hL : L.length = 8) :
    w2.cell? ⟨k, 0, none⟩ = some (.int .u64 X) ∧ w2.cell? ⟨k, 1, none⟩ = some (.int .u64 Y) ∧ (convert 22 9 (.slice (some ⟨b, o, none⟩) 8 cap)).run Try.prog w2 = .ok (.string (strB L)) w2 ∧ Row w2 k #[.int .u64 X, .int .u64 Y] t ∧ BL w2 b o L ∧ Below w.heap.size w w2 :=
  held_reads (h.2.2.2.1.below hb h.2.2.2.1.lt) (h.2.2.2.2.1.below hb (Nat.lt_of_lt_of_le hlt h.2.2.2.2.2.size)) hL (bThen h.2.2.2.2.2 hb h.2.2.2.2.2.size)

set_option maxRecDepth 4000 in
set_option maxHeartbeats 2000000 in
theorem walkReads8 (b o cap : Nat) (L : List Nat) (H0 : B8 8 L) (w : World) (hc0 : BL w b o L) :
    Calls Try.prog 3 #[.slice (some ⟨b, o, none⟩) 8 cap] w fun e w' => e = .returned (.bool true) ∧ Below w.heap.size w w' := by
  have H := Lib.hid H0
  have hlt := hc0.lt (by rw [H0.len]; decide)
  have C := Lib.hid hc0
  have hL := Lib.hid H0.len
  have hbe := Obol.be_num8 H0.all H0.len
  have hn64 := Obol.num8_lt H0.all H0.len
  have hread := Obol.read_is (Obol.num8 L) hn64
  clear hc0 H0
  obtain ⟨N, hN⟩ : ∃ N : Int, ((Obol.num8 L : Nat) : Int) = N := ⟨_, rfl⟩
  have cN := fun w h => r2Number b o cap L H.out w h
  rw [hN] at cN
  replace cN := Lib.hid cN
  have n0 : 0 ≤ N := by omega
  have n1 : N ≤ 18446744073709551615 := by omega
  obtain ⟨y, hy⟩ : ∃ y : Int, N % 9223372036854775808 = y := ⟨_, rfl⟩
  have y0 : 0 ≤ y := by omega
  have y1 : y < 9223372036854775808 := by omega
  have ht : N.tmod 9223372036854775808 = y := by rw [Int.tmod_eq_emod_of_nonneg n0]; exact hy
  have ey : Obol.num8 L % 9223372036854775808 = y.toNat := by omega
  have hhas : Obol.hasN (Obol.num8 L) = (decide (y.toNat < Obol.R) && (Obol.sqB (sqY y.toNat) && (sqY y.toNat != 0 || !decide (Obol.num8 L ≥ 9223372036854775808)))) := by
    unfold Obol.hasN
    rw [ey]
    rfl
  have hE := fun W => eqErr W 3 3
  have cS := fun w => r7Square y y0 w
  obtain ⟨s, hs⟩ : ∃ s : Int, ((sqY y.toNat : Nat) : Int) = s := ⟨_, rfl⟩
  have s0 : 0 ≤ s := by omega
  have hsN : sqY y.toNat = s.toNat := by omega
  rw [hs] at cS
  have cQ := fun w => r1Square s s0 w
  have hsq : Obol.sqB s.toNat = Obol.sqB (sqY y.toNat) := by rw [hsN]
  rw [hsq] at cQ
  replace cS := Lib.hid cS
  by_cases hr : y < 288230376287764481
  · have hrR : decide (y.toNat < Obol.R) = true := decide_eq_true (by rw [Obol.R_def]; omega)
    cases hq : Obol.sqB (sqY y.toNat)
    · have HF : Hid (readV (Obol.num8 L) = .tuple #[edV 0 0, errV 3]) := Lib.hid (by
        have h := hread.1
        rw [hhas, hrR, hq, Bool.true_and, Bool.false_and] at h
        have : Obol.readN (Obol.num8 L) = Option.none := by
          cases hr : Obol.readN (Obol.num8 L) with
          | none => rfl
          | some p => rw [hr] at h; cases h
        unfold readV
        rw [this])
      rw [hq] at cQ
      replace cQ := Lib.hid cQ
      clear hq hrR
      clear hread hhas hbe hN hn64 ey hy hsN hsq hs
      go_enter Try.func3, Try.ntmps3
      go_wp2_with fail
      refine (up7 _).mono ?_
      rintro e w1 ⟨rfl, hb1⟩
      have C1 := Lib.hid (C.out.below hb1 hlt)
      have B1 := Lib.hid hb1
      have z1 := hb1.size
      clear hb1
      go_wp2_with fail
      refine (eRead8F o cap b L H.out _ HF.out _ C1.out).mono ?_
      rintro e w2 ⟨rfl, hb2⟩
      have C2 := Lib.hid (C1.out.below hb2 (by omega))
      have B2 := Lib.hid (B1.out.trans (hb2.mono z1))
      have z2 := B2.out.size
      clear hb2 C1 B1 z1
      go_wp2_with fail
      have C3 := C2.out.below (B := w2.heap.size) (bAlloc (Below.refl _ _) (.cells #[.int .u64 0, .int .u64 0] 26)) (by omega)
      have B3 := B2.out.alloc (by omega) (.cells #[.int .u64 0, .int .u64 0] 26)
      have R3 := Row.new w2 #[.int .u64 0, .int .u64 0] 26
      have z3 := B3.size
      generalize w2.alloc (.cells #[.int .u64 0, .int .u64 0] 26) = w3 at C3 B3 R3 z3 ⊢
      generalize w2.heap.size = k at R3 ⊢
      clear C2 B2 z2
      replace B3 := Lib.hid B3
      replace C3 := Lib.hid C3
      have g0 := R3.cell 0 rfl
      have g1 := R3.cell 1 rfl
      refine (cN.out _ C3.out).mono ?_
      rintro e w4 ⟨rfl, rfl⟩
      replace R3 := Lib.hid R3
      go_wp2_with (first | (go_at_call 9; refine (cS.out _).mono ?_; rintro e w' ⟨rfl, n, rfl⟩) | (go_at_call 10; refine (cQ.out _).mono ?_; rintro e w' ⟨rfl, rfl⟩))
      go_ret
      exact ⟨rfl, by first | exact B3.out | exact bDrewN B3.out _⟩
    · rw [hq] at cQ
      replace cQ := Lib.hid cQ
      by_cases h0 : s = 0
      · by_cases hod : N ≥ 9223372036854775808
        · have hqz : (sqY y.toNat != 0) = false := by rw [hsN, h0]; rfl
          have hdo : decide (Obol.num8 L ≥ 9223372036854775808) = true := decide_eq_true (by omega)
          have HF : Hid (readV (Obol.num8 L) = .tuple #[edV 0 0, errV 3]) := Lib.hid (by
            have h := hread.1
            rw [hhas, hrR, hq, hqz, hdo, Bool.true_and, Bool.true_and, Bool.false_or, Bool.not_true] at h
            have : Obol.readN (Obol.num8 L) = Option.none := by
              cases hr : Obol.readN (Obol.num8 L) with
              | none => rfl
              | some p => rw [hr] at h; cases h
            unfold readV
            rw [this])
          clear hq hrR hqz hdo
          clear hread hhas hbe hN hn64 ey hy hsN hsq hs
          subst h0
          go_enter Try.func3, Try.ntmps3
          go_wp2_with fail
          refine (up7 _).mono ?_
          rintro e w1 ⟨rfl, hb1⟩
          have C1 := Lib.hid (C.out.below hb1 hlt)
          have B1 := Lib.hid hb1
          have z1 := hb1.size
          clear hb1
          go_wp2_with fail
          refine (eRead8F o cap b L H.out _ HF.out _ C1.out).mono ?_
          rintro e w2 ⟨rfl, hb2⟩
          have C2 := Lib.hid (C1.out.below hb2 (by omega))
          have B2 := Lib.hid (B1.out.trans (hb2.mono z1))
          have z2 := B2.out.size
          clear hb2 C1 B1 z1
          go_wp2_with fail
          have C3 := C2.out.below (B := w2.heap.size) (bAlloc (Below.refl _ _) (.cells #[.int .u64 0, .int .u64 0] 26)) (by omega)
          have B3 := B2.out.alloc (by omega) (.cells #[.int .u64 0, .int .u64 0] 26)
          have R3 := Row.new w2 #[.int .u64 0, .int .u64 0] 26
          have z3 := B3.size
          generalize w2.alloc (.cells #[.int .u64 0, .int .u64 0] 26) = w3 at C3 B3 R3 z3 ⊢
          generalize w2.heap.size = k at R3 ⊢
          clear C2 B2 z2
          replace B3 := Lib.hid B3
          replace C3 := Lib.hid C3
          have g0 := R3.cell 0 rfl
          have g1 := R3.cell 1 rfl
          refine (cN.out _ C3.out).mono ?_
          rintro e w4 ⟨rfl, rfl⟩
          replace R3 := Lib.hid R3
          go_wp2_with (first | (go_at_call 9; refine (cS.out _).mono ?_; rintro e w' ⟨rfl, n, rfl⟩) | (go_at_call 10; refine (cQ.out _).mono ?_; rintro e w' ⟨rfl, rfl⟩))
          go_ret
          exact ⟨rfl, by first | exact B3.out | exact bDrewN B3.out _⟩
        · have hqz : (sqY y.toNat != 0) = false := by rw [hsN, h0]; rfl
          have hdo : decide (Obol.num8 L ≥ 9223372036854775808) = false := decide_eq_false (by omega)
          obtain ⟨p, hp⟩ : ∃ p, Obol.readN (Obol.num8 L) = Option.some p := by
            have h := hread.1
            rw [hhas, hrR, hq, hqz, hdo, Bool.true_and, Bool.true_and, Bool.false_or, Bool.not_false] at h
            cases hr : Obol.readN (Obol.num8 L) with
            | none => rw [hr] at h; cases h
            | some p => exact ⟨p, rfl⟩
          obtain ⟨p1, p2, p3, p4, p5⟩ := hread.2 p hp
          obtain ⟨X, hX⟩ : ∃ X : Int, X = (p.1 : Nat) := ⟨_, rfl⟩
          obtain ⟨Y, hY⟩ : ∃ Y : Int, Y = (p.2 : Nat) := ⟨_, rfl⟩
          have HF : Hid (readV (Obol.num8 L) = .tuple #[edV X Y, .nilIface]) := Lib.hid (by unfold readV; rw [hp, hX, hY])
          rw [Obol.R_def] at p2 p3
          have X0 : 0 ≤ X := by omega
          have Y0 : 0 ≤ Y := by omega
          have hYy : Y = y := by omega
          have hpe : (X.toNat, Y.toNat) = p := by rw [hX, hY]; rfl
          have hIs : Obol.isN (X.toNat, Y.toNat) = true := by rw [hpe]; exact p1
          have hcode : Obol.codeN (X.toNat, Y.toNat) = Obol.num8 L := by rw [hpe]; unfold Obol.codeN; omega
          have hX2 : X.tmod 2 = 0 := by rw [Int.tmod_eq_emod_of_nonneg X0]; omega
          subst hYy
          have hdd : decide (9223372036854775808 ≤ N) = false := decide_eq_false hod
          clear hq hrR hqz hdo
          subst h0
          have cI := fun w => r7Is X Y X0 Y0 w
          rw [hIs] at cI
          have cB := fun w => r7Bytes X Y X0 (by omega) Y0 (by omega) w
          rw [hcode, hbe] at cB
          replace cI := Lib.hid cI
          replace cB := Lib.hid cB
          clear hread hhas hbe hN hn64 ey hy hsN hsq hs hp p1 p2 p3 p4 p5 hpe hIs hcode hX hY
          go_enter Try.func3, Try.ntmps3
          go_wp2_with fail
          refine (up7 _).mono ?_
          rintro e w1 ⟨rfl, hb1⟩
          have C1 := Lib.hid (C.out.below hb1 hlt)
          have B1 := Lib.hid hb1
          have z1 := hb1.size
          clear hb1
          go_wp2_with fail
          refine (eRead8F o cap b L H.out _ HF.out _ C1.out).mono ?_
          rintro e w2 ⟨rfl, hb2⟩
          have C2 := Lib.hid (C1.out.below hb2 (by omega))
          have B2 := Lib.hid (B1.out.trans (hb2.mono z1))
          have z2 := B2.out.size
          clear hb2 C1 B1 z1
          go_wp2_with fail
          have C3 := C2.out.below (B := w2.heap.size) (bAlloc (Below.refl _ _) (.cells #[.int .u64 X, .int .u64 Y] 26)) (by omega)
          have B3 := B2.out.alloc (by omega) (.cells #[.int .u64 X, .int .u64 Y] 26)
          have R3 := Row.new w2 #[.int .u64 X, .int .u64 Y] 26
          have z3 := B3.size
          generalize w2.alloc (.cells #[.int .u64 X, .int .u64 Y] 26) = w3 at C3 B3 R3 z3 ⊢
          generalize w2.heap.size = k at R3 ⊢
          clear C2 B2 z2
          replace B3 := Lib.hid B3
          replace C3 := Lib.hid C3
          have g0 := R3.cell 0 rfl
          have g1 := R3.cell 1 rfl
          refine (cN.out _ C3.out).mono ?_
          rintro e w4 ⟨rfl, rfl⟩
          replace R3 := Lib.hid R3
          go_wp2_with (first | (go_at_call 9; refine (cS.out _).mono ?_; rintro e w' ⟨rfl, n, rfl⟩) | (go_at_call 10; refine (cQ.out _).mono ?_; rintro e w' ⟨rfl, rfl⟩))
          have S0 := held_reads (R3.out.drewN n) (fun i hi => C3.out i hi) hL.out (bDrewN B3.out n) (cap := cap)
          replace R3 := Lib.hid R3
          refine wp_region_noPanic ?_
          refine wp_region_held_drew (S := fun w' => w'.cell? ⟨k, 0, none⟩ = some (.int .u64 X) ∧ w'.cell? ⟨k, 1, none⟩ = some (.int .u64 Y) ∧ (convert 22 9 (.slice (some ⟨b, o, none⟩) 8 cap)).run Try.prog w' = .ok (.string (strB L)) w' ∧ Row w' k #[.int .u64 X, .int .u64 Y] 26 ∧ BL w' b o L ∧ Below w.heap.size w w') (by kernel_rfl) ?_ (fun hHeld => ?_)
          · exact held_reads_drew S0 hL.out
          refine takeH 0 (fun _ _ _ _ _ h => h) (by kernel_rfl) hHeld rfl (by kernel_rfl) (by rfl) (v := ?_) ?_ ?_
          rotate_left
          ((intro wz hz; (try dsimp only at hz); go_simp) <;> with_reducible rfl)
          try simp only [Act.put, List.setIfInBounds_toArray, List.set_cons_zero, List.set_cons_succ]
          refine takeH 1 (fun _ _ _ _ _ h => h) (by kernel_rfl) hHeld rfl (by kernel_rfl) (by rfl) (v := ?_) ?_ ?_
          rotate_left
          ((intro wz hz; (try dsimp only at hz); go_simp) <;> with_reducible rfl)
          try simp only [Act.put, List.setIfInBounds_toArray, List.set_cons_zero, List.set_cons_succ]
          refine takeH 2 (fun _ _ _ _ _ h => h) (by kernel_rfl) hHeld rfl (by kernel_rfl) (by rfl) (v := ?_) ?_ ?_
          rotate_left
          ((intro wz hz; (try dsimp only at hz); go_simp) <;> with_reducible rfl)
          try simp only [Act.put, List.setIfInBounds_toArray, List.set_cons_zero, List.set_cons_succ]
          refine takeH 3 (fun _ _ _ _ _ h => h) (by kernel_rfl) hHeld rfl (by kernel_rfl) (by rfl) (v := ?_) ?_ ?_
          rotate_left
          ((intro wz hz; (try dsimp only at hz); go_simp) <;> with_reducible rfl)
          try simp only [Act.put, List.setIfInBounds_toArray, List.set_cons_zero, List.set_cons_succ]
          refine takeH 4 (fun _ _ _ _ _ h => h) (by kernel_rfl) hHeld rfl (by kernel_rfl) (by rfl) (v := ?_) ?_ ?_
          rotate_left
          ((intro wz hz; (try dsimp only at hz); go_simp) <;> with_reducible rfl)
          try simp only [Act.put, List.setIfInBounds_toArray, List.set_cons_zero, List.set_cons_succ]
          refine takeH 5 (fun _ _ _ _ _ h => h) (by kernel_rfl) hHeld rfl (by kernel_rfl) (by rfl) (v := ?_) ?_ ?_
          rotate_left
          ((intro wz hz; (try dsimp only at hz); go_simp) <;> with_reducible rfl)
          try simp only [Act.put, List.setIfInBounds_toArray, List.set_cons_zero, List.set_cons_succ]
          refine takeH 6 (fun _ _ _ _ _ h => h) (by kernel_rfl) hHeld rfl (by kernel_rfl) (by rfl) (v := ?_) ?_ ?_
          rotate_left
          ((intro wz hz; (try dsimp only at hz); go_simp) <;> with_reducible rfl)
          try simp only [Act.put, List.setIfInBounds_toArray, List.set_cons_zero, List.set_cons_succ]
          refine stepH 7 (by kernel_rfl) rfl (by rfl) (fun K hK => ?_)
          go_simp
          refine (cI.out _).mono ?_
          rintro e w6 ⟨rfl, hb6⟩
          refine hK.out _ _ ?_ (fun hHeld => ?_)
          · exact held_reads_next hHeld hb6 hlt hL.out
          clear hK K
          try simp only [Act.put, List.setIfInBounds_toArray, List.set_cons_zero, List.set_cons_succ]
          refine takeH 8 (fun _ _ _ _ _ h => h) (by kernel_rfl) hHeld rfl (by kernel_rfl) (by rfl) (v := ?_) ?_ ?_
          rotate_left
          ((intro wz hz; (try dsimp only at hz); go_simp) <;> with_reducible rfl)
          try simp only [Act.put, List.setIfInBounds_toArray, List.set_cons_zero, List.set_cons_succ]
          refine takeH 9 (fun _ _ _ _ _ h => h) (by kernel_rfl) hHeld rfl (by kernel_rfl) (by rfl) (v := ?_) ?_ ?_
          rotate_left
          ((intro wz hz; (try dsimp only at hz); go_simp) <;> with_reducible rfl)
          try simp only [Act.put, List.setIfInBounds_toArray, List.set_cons_zero, List.set_cons_succ]
          refine takeH 10 (fun _ _ _ _ _ h => h) (by kernel_rfl) hHeld rfl (by kernel_rfl) (by rfl) (v := ?_) ?_ ?_
          rotate_left
          ((intro wz hz; (try dsimp only at hz); go_simp) <;> with_reducible rfl)
          try simp only [Act.put, List.setIfInBounds_toArray, List.set_cons_zero, List.set_cons_succ]
          refine takeH 11 (fun _ _ _ _ _ h => h) (by kernel_rfl) hHeld rfl (by kernel_rfl) (by rfl) (v := ?_) ?_ ?_
          rotate_left
          ((intro wz hz; (try dsimp only at hz); go_simp) <;> with_reducible rfl)
          try simp only [Act.put, List.setIfInBounds_toArray, List.set_cons_zero, List.set_cons_succ]
          refine takeH 12 (fun _ _ _ _ _ h => h) (by kernel_rfl) hHeld rfl (by kernel_rfl) (by rfl) (v := ?_) ?_ ?_
          rotate_left
          ((intro wz hz; (try dsimp only at hz); go_simp) <;> with_reducible rfl)
          try simp only [Act.put, List.setIfInBounds_toArray, List.set_cons_zero, List.set_cons_succ]
          refine takeH 13 (fun _ _ _ _ _ h => h) (by kernel_rfl) hHeld rfl (by kernel_rfl) (by rfl) (v := ?_) ?_ ?_
          rotate_left
          ((intro wz hz; (try dsimp only at hz); go_simp) <;> with_reducible rfl)
          try simp only [Act.put, List.setIfInBounds_toArray, List.set_cons_zero, List.set_cons_succ]
          refine takeH 14 (fun _ _ _ _ _ h => h) (by kernel_rfl) hHeld rfl (by kernel_rfl) (by rfl) (v := ?_) ?_ ?_
          rotate_left
          ((intro wz hz; (try dsimp only at hz); go_simp) <;> with_reducible rfl)
          try simp only [Act.put, List.setIfInBounds_toArray, List.set_cons_zero, List.set_cons_succ]
          refine takeH 15 (fun _ _ _ _ _ h => h) (by kernel_rfl) hHeld rfl (by kernel_rfl) (by rfl) (v := ?_) ?_ ?_
          rotate_left
          ((intro wz hz; (try dsimp only at hz); go_simp) <;> with_reducible rfl)
          try simp only [Act.put, List.setIfInBounds_toArray, List.set_cons_zero, List.set_cons_succ]
          refine takeH 16 (fun _ _ _ _ _ h => h) (by kernel_rfl) hHeld rfl (by kernel_rfl) (by rfl) (v := ?_) ?_ ?_
          rotate_left
          ((intro wz hz; (try dsimp only at hz); go_simp) <;> with_reducible rfl)
          try simp only [Act.put, List.setIfInBounds_toArray, List.set_cons_zero, List.set_cons_succ]
          refine takeH 17 (fun _ _ _ _ _ h => h) (by kernel_rfl) hHeld rfl (by kernel_rfl) (by rfl) (v := ?_) ?_ ?_
          rotate_left
          ((intro wz hz; (try dsimp only at hz); go_simp) <;> with_reducible rfl)
          try simp only [Act.put, List.setIfInBounds_toArray, List.set_cons_zero, List.set_cons_succ]
          refine takeH 18 (fun _ _ _ _ _ h => h) (by kernel_rfl) hHeld rfl (by kernel_rfl) (by rfl) (v := ?_) ?_ ?_
          rotate_left
          ((intro wz hz; (try dsimp only at hz); go_simp) <;> with_reducible rfl)
          try simp only [Act.put, List.setIfInBounds_toArray, List.set_cons_zero, List.set_cons_succ]
          refine takeH 19 (fun _ _ _ _ _ h => h) (by kernel_rfl) hHeld rfl (by kernel_rfl) (by rfl) (v := ?_) ?_ ?_
          rotate_left
          ((intro wz hz; (try dsimp only at hz); go_simp) <;> with_reducible rfl)
          try simp only [Act.put, List.setIfInBounds_toArray, List.set_cons_zero, List.set_cons_succ]
          refine takeH 20 (fun _ _ _ _ _ h => h) (by kernel_rfl) hHeld rfl (by kernel_rfl) (by rfl) (v := ?_) ?_ ?_
          rotate_left
          ((intro wz hz; (try dsimp only at hz); go_simp) <;> with_reducible rfl)
          try simp only [Act.put, List.setIfInBounds_toArray, List.set_cons_zero, List.set_cons_succ]
          refine takeH 21 (fun _ _ _ _ _ h => h) (by kernel_rfl) hHeld rfl (by kernel_rfl) (by rfl) (v := ?_) ?_ ?_
          rotate_left
          ((intro wz hz; (try dsimp only at hz); go_simp) <;> with_reducible rfl)
          try simp only [Act.put, List.setIfInBounds_toArray, List.set_cons_zero, List.set_cons_succ]
          refine takeH 22 (fun _ _ _ _ _ h => h) (by kernel_rfl) hHeld rfl (by kernel_rfl) (by rfl) (v := ?_) ?_ ?_
          rotate_left
          ((intro wz hz; (try dsimp only at hz); go_simp) <;> with_reducible rfl)
          try simp only [Act.put, List.setIfInBounds_toArray, List.set_cons_zero, List.set_cons_succ]
          refine takeH 23 (fun _ _ _ _ _ h => h) (by kernel_rfl) hHeld rfl (by kernel_rfl) (by rfl) (v := ?_) ?_ ?_
          rotate_left
          ((intro wz hz; (try dsimp only at hz); go_simp) <;> with_reducible rfl)
          try simp only [Act.put, List.setIfInBounds_toArray, List.set_cons_zero, List.set_cons_succ]
          refine takeH 24 (fun _ _ _ _ _ h => h) (by kernel_rfl) hHeld rfl (by kernel_rfl) (by rfl) (v := ?_) ?_ ?_
          rotate_left
          ((intro wz hz; (try dsimp only at hz); go_simp) <;> with_reducible rfl)
          try simp only [Act.put, List.setIfInBounds_toArray, List.set_cons_zero, List.set_cons_succ]
          refine takeH 27 (fun _ _ _ _ _ h => h) (by kernel_rfl) hHeld rfl (by kernel_rfl) (by rfl) (v := ?_) ?_ ?_
          rotate_left
          ((intro wz hz; (try dsimp only at hz); go_simp) <;> with_reducible rfl)
          try simp only [Act.put, List.setIfInBounds_toArray, List.set_cons_zero, List.set_cons_succ]
          refine takeH 28 (fun _ _ _ _ _ h => h) (by kernel_rfl) hHeld rfl (by kernel_rfl) (by rfl) (v := ?_) ?_ ?_
          rotate_left
          ((intro wz hz; (try dsimp only at hz); go_simp) <;> with_reducible rfl)
          try simp only [Act.put, List.setIfInBounds_toArray, List.set_cons_zero, List.set_cons_succ]
          refine stepH 25 (by kernel_rfl) rfl (by rfl) (fun K hK => ?_)
          go_simp
          refine (cB.out _).mono ?_
          rintro e w7 ⟨g6, rfl, hg6, R6, hb7⟩
          have hcv := conv8 (cap := 8) (n := 8) R6.bl hL.out
          refine hK.out _ _ ?_ (fun hHeld => ?_)
          · exact held_reads_next hHeld hb7 hlt hL.out
          clear hK K
          try simp only [Act.put, List.setIfInBounds_toArray, List.set_cons_zero, List.set_cons_succ]
          refine stepH 26 (by kernel_rfl) rfl (by rfl) (fun K hK => ?_)
          go_simp
          refine hK.out _ _ ?_ (fun hHeld => ?_)
          · exact hHeld
          clear hK K
          try simp only [Act.put, List.setIfInBounds_toArray, List.set_cons_zero, List.set_cons_succ]
          refine takeH 29 (fun _ _ _ _ _ h => h) (by kernel_rfl) hHeld rfl (by kernel_rfl) (by rfl) (v := ?_) ?_ ?_
          rotate_left
          ((intro wz hz; (try dsimp only at hz); go_simp) <;> with_reducible rfl)
          try simp only [Act.put, List.setIfInBounds_toArray, List.set_cons_zero, List.set_cons_succ]
          refine takeH 30 (fun _ _ _ _ _ h => h) (by kernel_rfl) hHeld rfl (by kernel_rfl) (by rfl) (v := ?_) ?_ ?_
          rotate_left
          ((intro wz hz; (try dsimp only at hz); go_simp) <;> with_reducible rfl)
          try simp only [Act.put, List.setIfInBounds_toArray, List.set_cons_zero, List.set_cons_succ]
          refine takeH 31 (fun _ _ _ _ _ h => h) (by kernel_rfl) hHeld rfl (by kernel_rfl) (by rfl) (v := ?_) ?_ ?_
          rotate_left
          ((intro wz hz; (try dsimp only at hz); go_simp) <;> with_reducible rfl)
          try simp only [Act.put, List.setIfInBounds_toArray, List.set_cons_zero, List.set_cons_succ]
          refine wpAnyH_done (by kernel_rfl) (NoPanic.normal ?_) _
          go_wp2
          go_ret
          exact ⟨rfl, hHeld.2.2.2.2.2⟩
      · have hqz : (sqY y.toNat != 0) = true := bne_iff_ne.2 (by omega)
        have hsz : (s != 0) = true := bne_iff_ne.2 h0
        replace h0 := Lib.hid h0
        by_cases hod : N ≥ 9223372036854775808
        · obtain ⟨p, hp⟩ : ∃ p, Obol.readN (Obol.num8 L) = Option.some p := by
            have h := hread.1
            rw [hhas, hrR, hq, hqz, Bool.true_and, Bool.true_and, Bool.true_or] at h
            cases hr : Obol.readN (Obol.num8 L) with
            | none => rw [hr] at h; cases h
            | some p => exact ⟨p, rfl⟩
          obtain ⟨p1, p2, p3, p4, p5⟩ := hread.2 p hp
          obtain ⟨X, hX⟩ : ∃ X : Int, X = (p.1 : Nat) := ⟨_, rfl⟩
          obtain ⟨Y, hY⟩ : ∃ Y : Int, Y = (p.2 : Nat) := ⟨_, rfl⟩
          have HF : Hid (readV (Obol.num8 L) = .tuple #[edV X Y, .nilIface]) := Lib.hid (by unfold readV; rw [hp, hX, hY])
          rw [Obol.R_def] at p2 p3
          have X0 : 0 ≤ X := by omega
          have Y0 : 0 ≤ Y := by omega
          have hYy : Y = y := by omega
          have hpe : (X.toNat, Y.toNat) = p := by rw [hX, hY]; rfl
          have hIs : Obol.isN (X.toNat, Y.toNat) = true := by rw [hpe]; exact p1
          have hcode : Obol.codeN (X.toNat, Y.toNat) = Obol.num8 L := by rw [hpe]; unfold Obol.codeN; omega
          have hX2 : X.tmod 2 = 1 := by rw [Int.tmod_eq_emod_of_nonneg X0]; omega
          subst hYy
          have hdd : decide (9223372036854775808 ≤ N) = true := decide_eq_true hod
          clear hq hrR hqz
          have cI := fun w => r7Is X Y X0 Y0 w
          rw [hIs] at cI
          have cB := fun w => r7Bytes X Y X0 (by omega) Y0 (by omega) w
          rw [hcode, hbe] at cB
          replace cI := Lib.hid cI
          replace cB := Lib.hid cB
          clear hread hhas hbe hN hn64 ey hy hsN hsq hs hp p1 p2 p3 p4 p5 hpe hIs hcode hX hY
          go_enter Try.func3, Try.ntmps3
          go_wp2_with fail
          refine (up7 _).mono ?_
          rintro e w1 ⟨rfl, hb1⟩
          have C1 := Lib.hid (C.out.below hb1 hlt)
          have B1 := Lib.hid hb1
          have z1 := hb1.size
          clear hb1
          go_wp2_with fail
          refine (eRead8F o cap b L H.out _ HF.out _ C1.out).mono ?_
          rintro e w2 ⟨rfl, hb2⟩
          have C2 := Lib.hid (C1.out.below hb2 (by omega))
          have B2 := Lib.hid (B1.out.trans (hb2.mono z1))
          have z2 := B2.out.size
          clear hb2 C1 B1 z1
          go_wp2_with fail
          have C3 := C2.out.below (B := w2.heap.size) (bAlloc (Below.refl _ _) (.cells #[.int .u64 X, .int .u64 Y] 26)) (by omega)
          have B3 := B2.out.alloc (by omega) (.cells #[.int .u64 X, .int .u64 Y] 26)
          have R3 := Row.new w2 #[.int .u64 X, .int .u64 Y] 26
          have z3 := B3.size
          generalize w2.alloc (.cells #[.int .u64 X, .int .u64 Y] 26) = w3 at C3 B3 R3 z3 ⊢
          generalize w2.heap.size = k at R3 ⊢
          clear C2 B2 z2
          replace B3 := Lib.hid B3
          replace C3 := Lib.hid C3
          have g0 := R3.cell 0 rfl
          have g1 := R3.cell 1 rfl
          refine (cN.out _ C3.out).mono ?_
          rintro e w4 ⟨rfl, rfl⟩
          replace R3 := Lib.hid R3
          go_wp2_with (first | (go_at_call 9; refine (cS.out _).mono ?_; rintro e w' ⟨rfl, n, rfl⟩) | (go_at_call 10; refine (cQ.out _).mono ?_; rintro e w' ⟨rfl, rfl⟩))
          have S0 := held_reads (R3.out.drewN n) (fun i hi => C3.out i hi) hL.out (bDrewN B3.out n) (cap := cap)
          replace R3 := Lib.hid R3
          refine wp_region_noPanic ?_
          refine wp_region_held_drew (S := fun w' => w'.cell? ⟨k, 0, none⟩ = some (.int .u64 X) ∧ w'.cell? ⟨k, 1, none⟩ = some (.int .u64 Y) ∧ (convert 22 9 (.slice (some ⟨b, o, none⟩) 8 cap)).run Try.prog w' = .ok (.string (strB L)) w' ∧ Row w' k #[.int .u64 X, .int .u64 Y] 26 ∧ BL w' b o L ∧ Below w.heap.size w w') (by kernel_rfl) ?_ (fun hHeld => ?_)
          · exact held_reads_drew S0 hL.out
          refine takeH 0 (fun _ _ _ _ _ h => h) (by kernel_rfl) hHeld rfl (by kernel_rfl) (by rfl) (v := ?_) ?_ ?_
          rotate_left
          ((intro wz hz; (try dsimp only at hz); go_simp) <;> with_reducible rfl)
          try simp only [Act.put, List.setIfInBounds_toArray, List.set_cons_zero, List.set_cons_succ]
          refine takeH 1 (fun _ _ _ _ _ h => h) (by kernel_rfl) hHeld rfl (by kernel_rfl) (by rfl) (v := ?_) ?_ ?_
          rotate_left
          ((intro wz hz; (try dsimp only at hz); go_simp) <;> with_reducible rfl)
          try simp only [Act.put, List.setIfInBounds_toArray, List.set_cons_zero, List.set_cons_succ]
          refine takeH 2 (fun _ _ _ _ _ h => h) (by kernel_rfl) hHeld rfl (by kernel_rfl) (by rfl) (v := ?_) ?_ ?_
          rotate_left
          ((intro wz hz; (try dsimp only at hz); go_simp) <;> with_reducible rfl)
          try simp only [Act.put, List.setIfInBounds_toArray, List.set_cons_zero, List.set_cons_succ]
          refine takeH 3 (fun _ _ _ _ _ h => h) (by kernel_rfl) hHeld rfl (by kernel_rfl) (by rfl) (v := ?_) ?_ ?_
          rotate_left
          ((intro wz hz; (try dsimp only at hz); go_simp) <;> with_reducible rfl)
          try simp only [Act.put, List.setIfInBounds_toArray, List.set_cons_zero, List.set_cons_succ]
          refine takeH 4 (fun _ _ _ _ _ h => h) (by kernel_rfl) hHeld rfl (by kernel_rfl) (by rfl) (v := ?_) ?_ ?_
          rotate_left
          ((intro wz hz; (try dsimp only at hz); go_simp) <;> with_reducible rfl)
          try simp only [Act.put, List.setIfInBounds_toArray, List.set_cons_zero, List.set_cons_succ]
          refine takeH 5 (fun _ _ _ _ _ h => h) (by kernel_rfl) hHeld rfl (by kernel_rfl) (by rfl) (v := ?_) ?_ ?_
          rotate_left
          ((intro wz hz; (try dsimp only at hz); go_simp) <;> with_reducible rfl)
          try simp only [Act.put, List.setIfInBounds_toArray, List.set_cons_zero, List.set_cons_succ]
          refine takeH 6 (fun _ _ _ _ _ h => h) (by kernel_rfl) hHeld rfl (by kernel_rfl) (by rfl) (v := ?_) ?_ ?_
          rotate_left
          ((intro wz hz; (try dsimp only at hz); go_simp) <;> with_reducible rfl)
          try simp only [Act.put, List.setIfInBounds_toArray, List.set_cons_zero, List.set_cons_succ]
          refine stepH 7 (by kernel_rfl) rfl (by rfl) (fun K hK => ?_)
          go_simp
          refine (cI.out _).mono ?_
          rintro e w6 ⟨rfl, hb6⟩
          refine hK.out _ _ ?_ (fun hHeld => ?_)
          · exact held_reads_next hHeld hb6 hlt hL.out
          clear hK K
          try simp only [Act.put, List.setIfInBounds_toArray, List.set_cons_zero, List.set_cons_succ]
          refine takeH 8 (fun _ _ _ _ _ h => h) (by kernel_rfl) hHeld rfl (by kernel_rfl) (by rfl) (v := ?_) ?_ ?_
          rotate_left
          ((intro wz hz; (try dsimp only at hz); go_simp) <;> with_reducible rfl)
          try simp only [Act.put, List.setIfInBounds_toArray, List.set_cons_zero, List.set_cons_succ]
          refine takeH 9 (fun _ _ _ _ _ h => h) (by kernel_rfl) hHeld rfl (by kernel_rfl) (by rfl) (v := ?_) ?_ ?_
          rotate_left
          ((intro wz hz; (try dsimp only at hz); go_simp) <;> with_reducible rfl)
          try simp only [Act.put, List.setIfInBounds_toArray, List.set_cons_zero, List.set_cons_succ]
          refine takeH 10 (fun _ _ _ _ _ h => h) (by kernel_rfl) hHeld rfl (by kernel_rfl) (by rfl) (v := ?_) ?_ ?_
          rotate_left
          ((intro wz hz; (try dsimp only at hz); go_simp) <;> with_reducible rfl)
          try simp only [Act.put, List.setIfInBounds_toArray, List.set_cons_zero, List.set_cons_succ]
          refine takeH 11 (fun _ _ _ _ _ h => h) (by kernel_rfl) hHeld rfl (by kernel_rfl) (by rfl) (v := ?_) ?_ ?_
          rotate_left
          ((intro wz hz; (try dsimp only at hz); go_simp) <;> with_reducible rfl)
          try simp only [Act.put, List.setIfInBounds_toArray, List.set_cons_zero, List.set_cons_succ]
          refine takeH 12 (fun _ _ _ _ _ h => h) (by kernel_rfl) hHeld rfl (by kernel_rfl) (by rfl) (v := ?_) ?_ ?_
          rotate_left
          ((intro wz hz; (try dsimp only at hz); go_simp) <;> with_reducible rfl)
          try simp only [Act.put, List.setIfInBounds_toArray, List.set_cons_zero, List.set_cons_succ]
          refine takeH 13 (fun _ _ _ _ _ h => h) (by kernel_rfl) hHeld rfl (by kernel_rfl) (by rfl) (v := ?_) ?_ ?_
          rotate_left
          ((intro wz hz; (try dsimp only at hz); go_simp) <;> with_reducible rfl)
          try simp only [Act.put, List.setIfInBounds_toArray, List.set_cons_zero, List.set_cons_succ]
          refine takeH 14 (fun _ _ _ _ _ h => h) (by kernel_rfl) hHeld rfl (by kernel_rfl) (by rfl) (v := ?_) ?_ ?_
          rotate_left
          ((intro wz hz; (try dsimp only at hz); go_simp) <;> with_reducible rfl)
          try simp only [Act.put, List.setIfInBounds_toArray, List.set_cons_zero, List.set_cons_succ]
          refine takeH 15 (fun _ _ _ _ _ h => h) (by kernel_rfl) hHeld rfl (by kernel_rfl) (by rfl) (v := ?_) ?_ ?_
          rotate_left
          ((intro wz hz; (try dsimp only at hz); go_simp) <;> with_reducible rfl)
          try simp only [Act.put, List.setIfInBounds_toArray, List.set_cons_zero, List.set_cons_succ]
          refine takeH 16 (fun _ _ _ _ _ h => h) (by kernel_rfl) hHeld rfl (by kernel_rfl) (by rfl) (v := ?_) ?_ ?_
          rotate_left
          ((intro wz hz; (try dsimp only at hz); go_simp) <;> with_reducible rfl)
          try simp only [Act.put, List.setIfInBounds_toArray, List.set_cons_zero, List.set_cons_succ]
          refine takeH 17 (fun _ _ _ _ _ h => h) (by kernel_rfl) hHeld rfl (by kernel_rfl) (by rfl) (v := ?_) ?_ ?_
          rotate_left
          ((intro wz hz; (try dsimp only at hz); go_simp) <;> with_reducible rfl)
          try simp only [Act.put, List.setIfInBounds_toArray, List.set_cons_zero, List.set_cons_succ]
          refine takeH 18 (fun _ _ _ _ _ h => h) (by kernel_rfl) hHeld rfl (by kernel_rfl) (by rfl) (v := ?_) ?_ ?_
          rotate_left
          ((intro wz hz; (try dsimp only at hz); go_simp) <;> with_reducible rfl)
          try simp only [Act.put, List.setIfInBounds_toArray, List.set_cons_zero, List.set_cons_succ]
          refine takeH 19 (fun _ _ _ _ _ h => h) (by kernel_rfl) hHeld rfl (by kernel_rfl) (by rfl) (v := ?_) ?_ ?_
          rotate_left
          ((intro wz hz; (try dsimp only at hz); go_simp) <;> with_reducible rfl)
          try simp only [Act.put, List.setIfInBounds_toArray, List.set_cons_zero, List.set_cons_succ]
          refine takeH 20 (fun _ _ _ _ _ h => h) (by kernel_rfl) hHeld rfl (by kernel_rfl) (by rfl) (v := ?_) ?_ ?_
          rotate_left
          ((intro wz hz; (try dsimp only at hz); go_simp) <;> with_reducible rfl)
          try simp only [Act.put, List.setIfInBounds_toArray, List.set_cons_zero, List.set_cons_succ]
          refine takeH 21 (fun _ _ _ _ _ h => h) (by kernel_rfl) hHeld rfl (by kernel_rfl) (by rfl) (v := ?_) ?_ ?_
          rotate_left
          ((intro wz hz; (try dsimp only at hz); go_simp) <;> with_reducible rfl)
          try simp only [Act.put, List.setIfInBounds_toArray, List.set_cons_zero, List.set_cons_succ]
          refine takeH 22 (fun _ _ _ _ _ h => h) (by kernel_rfl) hHeld rfl (by kernel_rfl) (by rfl) (v := ?_) ?_ ?_
          rotate_left
          ((intro wz hz; (try dsimp only at hz); go_simp) <;> with_reducible rfl)
          try simp only [Act.put, List.setIfInBounds_toArray, List.set_cons_zero, List.set_cons_succ]
          refine takeH 23 (fun _ _ _ _ _ h => h) (by kernel_rfl) hHeld rfl (by kernel_rfl) (by rfl) (v := ?_) ?_ ?_
          rotate_left
          ((intro wz hz; (try dsimp only at hz); go_simp) <;> with_reducible rfl)
          try simp only [Act.put, List.setIfInBounds_toArray, List.set_cons_zero, List.set_cons_succ]
          refine takeH 24 (fun _ _ _ _ _ h => h) (by kernel_rfl) hHeld rfl (by kernel_rfl) (by rfl) (v := ?_) ?_ ?_
          rotate_left
          ((intro wz hz; (try dsimp only at hz); go_simp) <;> with_reducible rfl)
          try simp only [Act.put, List.setIfInBounds_toArray, List.set_cons_zero, List.set_cons_succ]
          refine takeH 27 (fun _ _ _ _ _ h => h) (by kernel_rfl) hHeld rfl (by kernel_rfl) (by rfl) (v := ?_) ?_ ?_
          rotate_left
          ((intro wz hz; (try dsimp only at hz); go_simp) <;> with_reducible rfl)
          try simp only [Act.put, List.setIfInBounds_toArray, List.set_cons_zero, List.set_cons_succ]
          refine takeH 28 (fun _ _ _ _ _ h => h) (by kernel_rfl) hHeld rfl (by kernel_rfl) (by rfl) (v := ?_) ?_ ?_
          rotate_left
          ((intro wz hz; (try dsimp only at hz); go_simp) <;> with_reducible rfl)
          try simp only [Act.put, List.setIfInBounds_toArray, List.set_cons_zero, List.set_cons_succ]
          refine stepH 25 (by kernel_rfl) rfl (by rfl) (fun K hK => ?_)
          go_simp
          refine (cB.out _).mono ?_
          rintro e w7 ⟨g6, rfl, hg6, R6, hb7⟩
          have hcv := conv8 (cap := 8) (n := 8) R6.bl hL.out
          refine hK.out _ _ ?_ (fun hHeld => ?_)
          · exact held_reads_next hHeld hb7 hlt hL.out
          clear hK K
          try simp only [Act.put, List.setIfInBounds_toArray, List.set_cons_zero, List.set_cons_succ]
          refine stepH 26 (by kernel_rfl) rfl (by rfl) (fun K hK => ?_)
          go_simp
          refine hK.out _ _ ?_ (fun hHeld => ?_)
          · exact hHeld
          clear hK K
          try simp only [Act.put, List.setIfInBounds_toArray, List.set_cons_zero, List.set_cons_succ]
          refine takeH 29 (fun _ _ _ _ _ h => h) (by kernel_rfl) hHeld rfl (by kernel_rfl) (by rfl) (v := ?_) ?_ ?_
          rotate_left
          ((intro wz hz; (try dsimp only at hz); go_simp) <;> with_reducible rfl)
          try simp only [Act.put, List.setIfInBounds_toArray, List.set_cons_zero, List.set_cons_succ]
          refine takeH 30 (fun _ _ _ _ _ h => h) (by kernel_rfl) hHeld rfl (by kernel_rfl) (by rfl) (v := ?_) ?_ ?_
          rotate_left
          ((intro wz hz; (try dsimp only at hz); go_simp) <;> with_reducible rfl)
          try simp only [Act.put, List.setIfInBounds_toArray, List.set_cons_zero, List.set_cons_succ]
          refine takeH 31 (fun _ _ _ _ _ h => h) (by kernel_rfl) hHeld rfl (by kernel_rfl) (by rfl) (v := ?_) ?_ ?_
          rotate_left
          ((intro wz hz; (try dsimp only at hz); go_simp) <;> with_reducible rfl)
          try simp only [Act.put, List.setIfInBounds_toArray, List.set_cons_zero, List.set_cons_succ]
          refine wpAnyH_done (by kernel_rfl) (NoPanic.normal ?_) _
          go_wp2
          go_ret
          exact ⟨rfl, hHeld.2.2.2.2.2⟩
        · obtain ⟨p, hp⟩ : ∃ p, Obol.readN (Obol.num8 L) = Option.some p := by
            have h := hread.1
            rw [hhas, hrR, hq, hqz, Bool.true_and, Bool.true_and, Bool.true_or] at h
            cases hr : Obol.readN (Obol.num8 L) with
            | none => rw [hr] at h; cases h
            | some p => exact ⟨p, rfl⟩
          obtain ⟨p1, p2, p3, p4, p5⟩ := hread.2 p hp
          obtain ⟨X, hX⟩ : ∃ X : Int, X = (p.1 : Nat) := ⟨_, rfl⟩
          obtain ⟨Y, hY⟩ : ∃ Y : Int, Y = (p.2 : Nat) := ⟨_, rfl⟩
          have HF : Hid (readV (Obol.num8 L) = .tuple #[edV X Y, .nilIface]) := Lib.hid (by unfold readV; rw [hp, hX, hY])
          rw [Obol.R_def] at p2 p3
          have X0 : 0 ≤ X := by omega
          have Y0 : 0 ≤ Y := by omega
          have hYy : Y = y := by omega
          have hpe : (X.toNat, Y.toNat) = p := by rw [hX, hY]; rfl
          have hIs : Obol.isN (X.toNat, Y.toNat) = true := by rw [hpe]; exact p1
          have hcode : Obol.codeN (X.toNat, Y.toNat) = Obol.num8 L := by rw [hpe]; unfold Obol.codeN; omega
          have hX2 : X.tmod 2 = 0 := by rw [Int.tmod_eq_emod_of_nonneg X0]; omega
          subst hYy
          have hdd : decide (9223372036854775808 ≤ N) = false := decide_eq_false hod
          clear hq hrR hqz
          have cI := fun w => r7Is X Y X0 Y0 w
          rw [hIs] at cI
          have cB := fun w => r7Bytes X Y X0 (by omega) Y0 (by omega) w
          rw [hcode, hbe] at cB
          replace cI := Lib.hid cI
          replace cB := Lib.hid cB
          clear hread hhas hbe hN hn64 ey hy hsN hsq hs hp p1 p2 p3 p4 p5 hpe hIs hcode hX hY
          go_enter Try.func3, Try.ntmps3
          go_wp2_with fail
          refine (up7 _).mono ?_
          rintro e w1 ⟨rfl, hb1⟩
          have C1 := Lib.hid (C.out.below hb1 hlt)
          have B1 := Lib.hid hb1
          have z1 := hb1.size
          clear hb1
          go_wp2_with fail
          refine (eRead8F o cap b L H.out _ HF.out _ C1.out).mono ?_
          rintro e w2 ⟨rfl, hb2⟩
          have C2 := Lib.hid (C1.out.below hb2 (by omega))
          have B2 := Lib.hid (B1.out.trans (hb2.mono z1))
          have z2 := B2.out.size
          clear hb2 C1 B1 z1
          go_wp2_with fail
          have C3 := C2.out.below (B := w2.heap.size) (bAlloc (Below.refl _ _) (.cells #[.int .u64 X, .int .u64 Y] 26)) (by omega)
          have B3 := B2.out.alloc (by omega) (.cells #[.int .u64 X, .int .u64 Y] 26)
          have R3 := Row.new w2 #[.int .u64 X, .int .u64 Y] 26
          have z3 := B3.size
          generalize w2.alloc (.cells #[.int .u64 X, .int .u64 Y] 26) = w3 at C3 B3 R3 z3 ⊢
          generalize w2.heap.size = k at R3 ⊢
          clear C2 B2 z2
          replace B3 := Lib.hid B3
          replace C3 := Lib.hid C3
          have g0 := R3.cell 0 rfl
          have g1 := R3.cell 1 rfl
          refine (cN.out _ C3.out).mono ?_
          rintro e w4 ⟨rfl, rfl⟩
          replace R3 := Lib.hid R3
          go_wp2_with (first | (go_at_call 9; refine (cS.out _).mono ?_; rintro e w' ⟨rfl, n, rfl⟩) | (go_at_call 10; refine (cQ.out _).mono ?_; rintro e w' ⟨rfl, rfl⟩))
          have S0 := held_reads (R3.out.drewN n) (fun i hi => C3.out i hi) hL.out (bDrewN B3.out n) (cap := cap)
          replace R3 := Lib.hid R3
          refine wp_region_noPanic ?_
          refine wp_region_held_drew (S := fun w' => w'.cell? ⟨k, 0, none⟩ = some (.int .u64 X) ∧ w'.cell? ⟨k, 1, none⟩ = some (.int .u64 Y) ∧ (convert 22 9 (.slice (some ⟨b, o, none⟩) 8 cap)).run Try.prog w' = .ok (.string (strB L)) w' ∧ Row w' k #[.int .u64 X, .int .u64 Y] 26 ∧ BL w' b o L ∧ Below w.heap.size w w') (by kernel_rfl) ?_ (fun hHeld => ?_)
          · exact held_reads_drew S0 hL.out
          refine takeH 0 (fun _ _ _ _ _ h => h) (by kernel_rfl) hHeld rfl (by kernel_rfl) (by rfl) (v := ?_) ?_ ?_
          rotate_left
          ((intro wz hz; (try dsimp only at hz); go_simp) <;> with_reducible rfl)
          try simp only [Act.put, List.setIfInBounds_toArray, List.set_cons_zero, List.set_cons_succ]
          refine takeH 1 (fun _ _ _ _ _ h => h) (by kernel_rfl) hHeld rfl (by kernel_rfl) (by rfl) (v := ?_) ?_ ?_
          rotate_left
          ((intro wz hz; (try dsimp only at hz); go_simp) <;> with_reducible rfl)
          try simp only [Act.put, List.setIfInBounds_toArray, List.set_cons_zero, List.set_cons_succ]
          refine takeH 2 (fun _ _ _ _ _ h => h) (by kernel_rfl) hHeld rfl (by kernel_rfl) (by rfl) (v := ?_) ?_ ?_
          rotate_left
          ((intro wz hz; (try dsimp only at hz); go_simp) <;> with_reducible rfl)
          try simp only [Act.put, List.setIfInBounds_toArray, List.set_cons_zero, List.set_cons_succ]
          refine takeH 3 (fun _ _ _ _ _ h => h) (by kernel_rfl) hHeld rfl (by kernel_rfl) (by rfl) (v := ?_) ?_ ?_
          rotate_left
          ((intro wz hz; (try dsimp only at hz); go_simp) <;> with_reducible rfl)
          try simp only [Act.put, List.setIfInBounds_toArray, List.set_cons_zero, List.set_cons_succ]
          refine takeH 4 (fun _ _ _ _ _ h => h) (by kernel_rfl) hHeld rfl (by kernel_rfl) (by rfl) (v := ?_) ?_ ?_
          rotate_left
          ((intro wz hz; (try dsimp only at hz); go_simp) <;> with_reducible rfl)
          try simp only [Act.put, List.setIfInBounds_toArray, List.set_cons_zero, List.set_cons_succ]
          refine takeH 5 (fun _ _ _ _ _ h => h) (by kernel_rfl) hHeld rfl (by kernel_rfl) (by rfl) (v := ?_) ?_ ?_
          rotate_left
          ((intro wz hz; (try dsimp only at hz); go_simp) <;> with_reducible rfl)
          try simp only [Act.put, List.setIfInBounds_toArray, List.set_cons_zero, List.set_cons_succ]
          refine takeH 6 (fun _ _ _ _ _ h => h) (by kernel_rfl) hHeld rfl (by kernel_rfl) (by rfl) (v := ?_) ?_ ?_
          rotate_left
          ((intro wz hz; (try dsimp only at hz); go_simp) <;> with_reducible rfl)
          try simp only [Act.put, List.setIfInBounds_toArray, List.set_cons_zero, List.set_cons_succ]
          refine stepH 7 (by kernel_rfl) rfl (by rfl) (fun K hK => ?_)
          go_simp
          refine (cI.out _).mono ?_
          rintro e w6 ⟨rfl, hb6⟩
          refine hK.out _ _ ?_ (fun hHeld => ?_)
          · exact held_reads_next hHeld hb6 hlt hL.out
          clear hK K
          try simp only [Act.put, List.setIfInBounds_toArray, List.set_cons_zero, List.set_cons_succ]
          refine takeH 8 (fun _ _ _ _ _ h => h) (by kernel_rfl) hHeld rfl (by kernel_rfl) (by rfl) (v := ?_) ?_ ?_
          rotate_left
          ((intro wz hz; (try dsimp only at hz); go_simp) <;> with_reducible rfl)
          try simp only [Act.put, List.setIfInBounds_toArray, List.set_cons_zero, List.set_cons_succ]
          refine takeH 9 (fun _ _ _ _ _ h => h) (by kernel_rfl) hHeld rfl (by kernel_rfl) (by rfl) (v := ?_) ?_ ?_
          rotate_left
          ((intro wz hz; (try dsimp only at hz); go_simp) <;> with_reducible rfl)
          try simp only [Act.put, List.setIfInBounds_toArray, List.set_cons_zero, List.set_cons_succ]
          refine takeH 10 (fun _ _ _ _ _ h => h) (by kernel_rfl) hHeld rfl (by kernel_rfl) (by rfl) (v := ?_) ?_ ?_
          rotate_left
          ((intro wz hz; (try dsimp only at hz); go_simp) <;> with_reducible rfl)
          try simp only [Act.put, List.setIfInBounds_toArray, List.set_cons_zero, List.set_cons_succ]
          refine takeH 11 (fun _ _ _ _ _ h => h) (by kernel_rfl) hHeld rfl (by kernel_rfl) (by rfl) (v := ?_) ?_ ?_
          rotate_left
          ((intro wz hz; (try dsimp only at hz); go_simp) <;> with_reducible rfl)
          try simp only [Act.put, List.setIfInBounds_toArray, List.set_cons_zero, List.set_cons_succ]
          refine takeH 12 (fun _ _ _ _ _ h => h) (by kernel_rfl) hHeld rfl (by kernel_rfl) (by rfl) (v := ?_) ?_ ?_
          rotate_left
          ((intro wz hz; (try dsimp only at hz); go_simp) <;> with_reducible rfl)
          try simp only [Act.put, List.setIfInBounds_toArray, List.set_cons_zero, List.set_cons_succ]
          refine takeH 13 (fun _ _ _ _ _ h => h) (by kernel_rfl) hHeld rfl (by kernel_rfl) (by rfl) (v := ?_) ?_ ?_
          rotate_left
          ((intro wz hz; (try dsimp only at hz); go_simp) <;> with_reducible rfl)
          try simp only [Act.put, List.setIfInBounds_toArray, List.set_cons_zero, List.set_cons_succ]
          refine takeH 14 (fun _ _ _ _ _ h => h) (by kernel_rfl) hHeld rfl (by kernel_rfl) (by rfl) (v := ?_) ?_ ?_
          rotate_left
          ((intro wz hz; (try dsimp only at hz); go_simp) <;> with_reducible rfl)
          try simp only [Act.put, List.setIfInBounds_toArray, List.set_cons_zero, List.set_cons_succ]
          refine takeH 15 (fun _ _ _ _ _ h => h) (by kernel_rfl) hHeld rfl (by kernel_rfl) (by rfl) (v := ?_) ?_ ?_
          rotate_left
          ((intro wz hz; (try dsimp only at hz); go_simp) <;> with_reducible rfl)
          try simp only [Act.put, List.setIfInBounds_toArray, List.set_cons_zero, List.set_cons_succ]
          refine takeH 16 (fun _ _ _ _ _ h => h) (by kernel_rfl) hHeld rfl (by kernel_rfl) (by rfl) (v := ?_) ?_ ?_
          rotate_left
          ((intro wz hz; (try dsimp only at hz); go_simp) <;> with_reducible rfl)
          try simp only [Act.put, List.setIfInBounds_toArray, List.set_cons_zero, List.set_cons_succ]
          refine takeH 17 (fun _ _ _ _ _ h => h) (by kernel_rfl) hHeld rfl (by kernel_rfl) (by rfl) (v := ?_) ?_ ?_
          rotate_left
          ((intro wz hz; (try dsimp only at hz); go_simp) <;> with_reducible rfl)
          try simp only [Act.put, List.setIfInBounds_toArray, List.set_cons_zero, List.set_cons_succ]
          refine takeH 18 (fun _ _ _ _ _ h => h) (by kernel_rfl) hHeld rfl (by kernel_rfl) (by rfl) (v := ?_) ?_ ?_
          rotate_left
          ((intro wz hz; (try dsimp only at hz); go_simp) <;> with_reducible rfl)
          try simp only [Act.put, List.setIfInBounds_toArray, List.set_cons_zero, List.set_cons_succ]
          refine takeH 19 (fun _ _ _ _ _ h => h) (by kernel_rfl) hHeld rfl (by kernel_rfl) (by rfl) (v := ?_) ?_ ?_
          rotate_left
          ((intro wz hz; (try dsimp only at hz); go_simp) <;> with_reducible rfl)
          try simp only [Act.put, List.setIfInBounds_toArray, List.set_cons_zero, List.set_cons_succ]
          refine takeH 20 (fun _ _ _ _ _ h => h) (by kernel_rfl) hHeld rfl (by kernel_rfl) (by rfl) (v := ?_) ?_ ?_
          rotate_left
          ((intro wz hz; (try dsimp only at hz); go_simp) <;> with_reducible rfl)
          try simp only [Act.put, List.setIfInBounds_toArray, List.set_cons_zero, List.set_cons_succ]
          refine takeH 21 (fun _ _ _ _ _ h => h) (by kernel_rfl) hHeld rfl (by kernel_rfl) (by rfl) (v := ?_) ?_ ?_
          rotate_left
          ((intro wz hz; (try dsimp only at hz); go_simp) <;> with_reducible rfl)
          try simp only [Act.put, List.setIfInBounds_toArray, List.set_cons_zero, List.set_cons_succ]
          refine takeH 22 (fun _ _ _ _ _ h => h) (by kernel_rfl) hHeld rfl (by kernel_rfl) (by rfl) (v := ?_) ?_ ?_
          rotate_left
          ((intro wz hz; (try dsimp only at hz); go_simp) <;> with_reducible rfl)
          try simp only [Act.put, List.setIfInBounds_toArray, List.set_cons_zero, List.set_cons_succ]
          refine takeH 23 (fun _ _ _ _ _ h => h) (by kernel_rfl) hHeld rfl (by kernel_rfl) (by rfl) (v := ?_) ?_ ?_
          rotate_left
          ((intro wz hz; (try dsimp only at hz); go_simp) <;> with_reducible rfl)
          try simp only [Act.put, List.setIfInBounds_toArray, List.set_cons_zero, List.set_cons_succ]
          refine takeH 24 (fun _ _ _ _ _ h => h) (by kernel_rfl) hHeld rfl (by kernel_rfl) (by rfl) (v := ?_) ?_ ?_
          rotate_left
          ((intro wz hz; (try dsimp only at hz); go_simp) <;> with_reducible rfl)
          try simp only [Act.put, List.setIfInBounds_toArray, List.set_cons_zero, List.set_cons_succ]
          refine takeH 27 (fun _ _ _ _ _ h => h) (by kernel_rfl) hHeld rfl (by kernel_rfl) (by rfl) (v := ?_) ?_ ?_
          rotate_left
          ((intro wz hz; (try dsimp only at hz); go_simp) <;> with_reducible rfl)
          try simp only [Act.put, List.setIfInBounds_toArray, List.set_cons_zero, List.set_cons_succ]
          refine takeH 28 (fun _ _ _ _ _ h => h) (by kernel_rfl) hHeld rfl (by kernel_rfl) (by rfl) (v := ?_) ?_ ?_
          rotate_left
          ((intro wz hz; (try dsimp only at hz); go_simp) <;> with_reducible rfl)
          try simp only [Act.put, List.setIfInBounds_toArray, List.set_cons_zero, List.set_cons_succ]
          refine stepH 25 (by kernel_rfl) rfl (by rfl) (fun K hK => ?_)
          go_simp
          refine (cB.out _).mono ?_
          rintro e w7 ⟨g6, rfl, hg6, R6, hb7⟩
          have hcv := conv8 (cap := 8) (n := 8) R6.bl hL.out
          refine hK.out _ _ ?_ (fun hHeld => ?_)
          · exact held_reads_next hHeld hb7 hlt hL.out
          clear hK K
          try simp only [Act.put, List.setIfInBounds_toArray, List.set_cons_zero, List.set_cons_succ]
          refine stepH 26 (by kernel_rfl) rfl (by rfl) (fun K hK => ?_)
          go_simp
          refine hK.out _ _ ?_ (fun hHeld => ?_)
          · exact hHeld
          clear hK K
          try simp only [Act.put, List.setIfInBounds_toArray, List.set_cons_zero, List.set_cons_succ]
          refine takeH 29 (fun _ _ _ _ _ h => h) (by kernel_rfl) hHeld rfl (by kernel_rfl) (by rfl) (v := ?_) ?_ ?_
          rotate_left
          ((intro wz hz; (try dsimp only at hz); go_simp) <;> with_reducible rfl)
          try simp only [Act.put, List.setIfInBounds_toArray, List.set_cons_zero, List.set_cons_succ]
          refine takeH 30 (fun _ _ _ _ _ h => h) (by kernel_rfl) hHeld rfl (by kernel_rfl) (by rfl) (v := ?_) ?_ ?_
          rotate_left
          ((intro wz hz; (try dsimp only at hz); go_simp) <;> with_reducible rfl)
          try simp only [Act.put, List.setIfInBounds_toArray, List.set_cons_zero, List.set_cons_succ]
          refine takeH 31 (fun _ _ _ _ _ h => h) (by kernel_rfl) hHeld rfl (by kernel_rfl) (by rfl) (v := ?_) ?_ ?_
          rotate_left
          ((intro wz hz; (try dsimp only at hz); go_simp) <;> with_reducible rfl)
          try simp only [Act.put, List.setIfInBounds_toArray, List.set_cons_zero, List.set_cons_succ]
          refine wpAnyH_done (by kernel_rfl) (NoPanic.normal ?_) _
          go_wp2
          go_ret
          exact ⟨rfl, hHeld.2.2.2.2.2⟩
  · have hdr : decide (y < 288230376287764481) = false := decide_eq_false hr
    have hrR : decide (y.toNat < Obol.R) = false := decide_eq_false (by rw [Obol.R_def]; omega)
    have HF : Hid (readV (Obol.num8 L) = .tuple #[edV 0 0, errV 3]) := Lib.hid (by
      have h := hread.1
      rw [hhas, hrR, Bool.false_and] at h
      have : Obol.readN (Obol.num8 L) = Option.none := by
        cases hr : Obol.readN (Obol.num8 L) with
        | none => rfl
        | some p => rw [hr] at h; cases h
      unfold readV
      rw [this])
    replace cQ := Lib.hid cQ
    clear hrR
    clear hread hhas hbe hN hn64 ey hy hsN hsq hs
    go_enter Try.func3, Try.ntmps3
    go_wp2_with fail
    refine (up7 _).mono ?_
    rintro e w1 ⟨rfl, hb1⟩
    have C1 := Lib.hid (C.out.below hb1 hlt)
    have B1 := Lib.hid hb1
    have z1 := hb1.size
    clear hb1
    go_wp2_with fail
    refine (eRead8F o cap b L H.out _ HF.out _ C1.out).mono ?_
    rintro e w2 ⟨rfl, hb2⟩
    have C2 := Lib.hid (C1.out.below hb2 (by omega))
    have B2 := Lib.hid (B1.out.trans (hb2.mono z1))
    have z2 := B2.out.size
    clear hb2 C1 B1 z1
    go_wp2_with fail
    have C3 := C2.out.below (B := w2.heap.size) (bAlloc (Below.refl _ _) (.cells #[.int .u64 0, .int .u64 0] 26)) (by omega)
    have B3 := B2.out.alloc (by omega) (.cells #[.int .u64 0, .int .u64 0] 26)
    have R3 := Row.new w2 #[.int .u64 0, .int .u64 0] 26
    have z3 := B3.size
    generalize w2.alloc (.cells #[.int .u64 0, .int .u64 0] 26) = w3 at C3 B3 R3 z3 ⊢
    generalize w2.heap.size = k at R3 ⊢
    clear C2 B2 z2
    replace B3 := Lib.hid B3
    replace C3 := Lib.hid C3
    have g0 := R3.cell 0 rfl
    have g1 := R3.cell 1 rfl
    refine (cN.out _ C3.out).mono ?_
    rintro e w4 ⟨rfl, rfl⟩
    replace R3 := Lib.hid R3
    go_wp2_with (first | (go_at_call 9; refine (cS.out _).mono ?_; rintro e w' ⟨rfl, n, rfl⟩) | (go_at_call 10; refine (cQ.out _).mono ?_; rintro e w' ⟨rfl, rfl⟩))
    go_ret
    exact ⟨rfl, by first | exact B3.out | exact bDrewN B3.out _⟩

end Go.Proofs.Ytcdfpceagobicaa
