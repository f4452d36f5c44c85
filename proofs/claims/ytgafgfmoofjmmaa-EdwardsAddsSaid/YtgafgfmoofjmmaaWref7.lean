import Derived.Test.YtgafgfmoofjmmaaWref1
/- Walks: the reference of layer 7: the field, points, sums, multiples. -/
namespace Go.Proofs.Ytgafgfmoofjmmaa
open Go.RowKit

theorem addR_less (a b : Nat) : Obol.addR a (288230376287764481 - b % 288230376287764481) = Obol.subR a b := by
  rw [Obol.addR_eq, Obol.subR_eq, Obol.addQ, Obol.subQ, Obol.R_def]
  omega

theorem r7Mul (a b : Int) (ha : 0 ≤ a) (hb : 0 ≤ b) (w : World) :
    Calls Try.prog 60 #[.int .u64 a, .int .u64 b] w fun e w' => e = .returned (.int .u64 ((Obol.mulR a.toNat b.toNat : Nat) : Int)) ∧ ∃ n, w' = w.drewN n := by
  go_enter Try.func60, Try.ntmps60
  go_wp2_with (go_at_call 111; refine (R1Mul _ _ ha hb _).mono ?_; rintro e w' ⟨rfl, rfl⟩)
  go_ret
  exact ⟨rfl, 0, rfl⟩
theorem r7Plus (a b : Int) (ha : 0 ≤ a) (hb : 0 ≤ b) (w : World) :
    Calls Try.prog 61 #[.int .u64 a, .int .u64 b] w fun e w' => e = .returned (.int .u64 ((Obol.addR a.toNat b.toNat : Nat) : Int)) ∧ ∃ n, w' = w.drewN n := by
  go_enter Try.func61, Try.ntmps61
  go_wp2_with (go_at_call 112; refine (R1Add _ _ ha hb _).mono ?_; rintro e w' ⟨rfl, rfl⟩)
  go_ret
  exact ⟨rfl, 0, rfl⟩
theorem r7Less (a b : Int) (ha : 0 ≤ a) (hb : 0 ≤ b) (w : World) :
    Calls Try.prog 63 #[.int .u64 a, .int .u64 b] w fun e w' => e = .returned (.int .u64 ((Obol.subR a.toNat b.toNat : Nat) : Int)) ∧ ∃ n, w' = w.drewN n := by
  have h1 : (288230376287764481 - b % 288230376287764481).toNat = 288230376287764481 - b.toNat % 288230376287764481 := by omega
  have he := addR_less a.toNat b.toNat
  rw [← h1] at he
  obtain ⟨z, hz⟩ : ∃ z : Int, z = b % 288230376287764481 := ⟨_, rfl⟩
  rw [← hz] at he
  have HE := Lib.hid he
  have e1 : b.tmod 288230376287764481 = z := by rw [Int.tmod_eq_emod_of_nonneg hb]; exact hz.symm
  have h2 : 0 ≤ z := by omega
  have h3 : z < 288230376287764481 := by omega
  replace hz := hz.symm
  clear he h1
  go_enter Try.func63, Try.ntmps63
  go_wp2_with (go_at_call 61; refine (r7Plus _ _ ha (by omega) _).mono ?_; rintro e w' ⟨rfl, n, rfl⟩)
  go_ret
  exact ⟨ret_u64 (by rw [HE.out]), _, rfl⟩
theorem r7Over (a b : Int) (ha : 0 ≤ a) (hb : 0 ≤ b) (w : World) :
    Calls Try.prog 62 #[.int .u64 a, .int .u64 b] w fun e w' => e = .returned (.int .u64 ((Obol.overR a.toNat b.toNat : Nat) : Int)) ∧ ∃ n, w' = w.drewN n := by
  go_enter Try.func62, Try.ntmps62
  go_wp2_with (first | (go_at_call 82; refine (R1Pow2 _ hb _).mono ?_; rintro e w' ⟨rfl, rfl⟩) | (go_at_call 60; refine (r7Mul _ _ (by omega) (by omega) _).mono ?_; rintro e w' ⟨rfl, n, rfl⟩))
  go_ret
  refine ⟨?_, _, rfl⟩
  show Ending.returned (.int .u64 ((Obol.mulR a.toNat (Obol.invR b.toNat) : Nat) : Int)) = _
  rw [Obol.overR]

theorem isN_near2 {x y : Nat} (h1 : x < 288230376287764481) (h2 : y < 288230376287764481) :
    Obol.isN (x, y) = (((Obol.mulR y y : Nat) : Int) == ((Obol.addR (Obol.mulR x x) (Obol.addR 1 (Obol.mulR 439 (Obol.mulR (Obol.mulR x x) (Obol.mulR y y)))) : Nat) : Int)) := by
  rw [isN_near h1 h2, Bool.eq_iff_iff, beq_iff_eq, beq_iff_eq, Int.ofNat_inj, Int.ofNat_inj]
  have h3 := Obol.mulR_lt y y
  have h4 := Obol.mulR_lt x x
  have h5 : Obol.addR 1 (Obol.mulR 439 (Obol.mulR (Obol.mulR x x) (Obol.mulR y y))) < Obol.R := by rw [Obol.addR_eq]; exact Nat.mod_lt _ Obol.R_pos
  generalize Obol.addR 1 (Obol.mulR 439 (Obol.mulR (Obol.mulR x x) (Obol.mulR y y))) = c at *
  generalize Obol.mulR x x = a at *
  generalize Obol.mulR y y = b at *
  rw [Obol.addR_eq, Obol.subR_eq, Obol.addQ, Obol.subQ]
  rw [Obol.R_def] at *
  omega

theorem r7Is (X Y : Int) (hX : 0 ≤ X) (hY : 0 ≤ Y) (w : World) :
    Calls Try.prog 23 #[edV X Y] w fun e w' => e = .returned (.bool (Obol.isN (X.toNat, Y.toNat))) ∧ Below w.heap.size w w' := by
  by_cases h1 : (288230376287764481 : Int) ≤ X
  · have hr := Lib.hid (isN_far1 (x := X.toNat) (y := Y.toNat) (by omega))
    go_enter Try.func23, Try.ntmps23
    go_wp2_with fail
    go_ret
    exact ⟨by rw [hr.out]; rfl, by repeat (first | exact Below.refl _ _ | assumption | apply bDrewN | apply bDrew | apply bAlloc | refine bSet ?_ (by omega) | refine bThen ?_ (by assumption) (by simp <;> omega))⟩
  · by_cases h2 : (288230376287764481 : Int) ≤ Y
    · have hr := Lib.hid (isN_far2 (x := X.toNat) (y := Y.toNat) (by omega))
      go_enter Try.func23, Try.ntmps23
      go_wp2_with fail
      go_ret
      exact ⟨by rw [hr.out]; rfl, by repeat (first | exact Below.refl _ _ | assumption | apply bDrewN | apply bDrew | apply bAlloc | refine bSet ?_ (by omega) | refine bThen ?_ (by assumption) (by simp <;> omega))⟩
    · have hr := Lib.hid (isN_near2 (x := X.toNat) (y := Y.toNat) (by omega) (by omega))
      go_enter Try.func23, Try.ntmps23
      go_wp2_with (first | (go_at_call 60; refine (r7Mul _ _ (by omega) (by omega) _).mono ?_; rintro e w' ⟨rfl, n, rfl⟩) | (go_at_call 61; refine (r7Plus _ _ (by omega) (by omega) _).mono ?_; rintro e w' ⟨rfl, n, rfl⟩))
      go_ret
      exact ⟨by rw [hr.out]; rfl, by repeat (first | exact Below.refl _ _ | assumption | apply bDrewN | apply bDrew | apply bAlloc | refine bSet ?_ (by omega) | refine bThen ?_ (by assumption) (by simp <;> omega))⟩

theorem r7Sum (X Y X' Y' : Int) (hX : 0 ≤ X) (hY : 0 ≤ Y) (hX' : 0 ≤ X') (hY' : 0 ≤ Y') (w : World) :
    Calls Try.prog 22 #[edV X Y, edV X' Y'] w fun e w' =>
      e = .returned (edV ((Obol.sumN (X.toNat, Y.toNat) (X'.toNat, Y'.toNat)).1 : Nat) ((Obol.sumN (X.toNat, Y.toNat) (X'.toNat, Y'.toNat)).2 : Nat)) ∧ Below w.heap.size w w' := by
  have h0 : Hid (Obol.sumN (X.toNat, Y.toNat) (X'.toNat, Y'.toNat) =
      (Obol.overR (Obol.addR (Obol.mulR X.toNat Y'.toNat) (Obol.mulR Y.toNat X'.toNat)) (Obol.addR 1 (Obol.mulR 439 (Obol.mulR (Obol.mulR X.toNat X'.toNat) (Obol.mulR Y.toNat Y'.toNat)))),
       Obol.overR (Obol.addR (Obol.mulR Y.toNat Y'.toNat) (Obol.mulR X.toNat X'.toNat)) (Obol.subR 1 (Obol.mulR 439 (Obol.mulR (Obol.mulR X.toNat X'.toNat) (Obol.mulR Y.toNat Y'.toNat)))))) := Lib.hid (by
    unfold Obol.sumN
    have : Obol.addR (Obol.mulR Y.toNat Y'.toNat) (Obol.mulR X.toNat X'.toNat) = Obol.addR (Obol.mulR X.toNat X'.toNat) (Obol.mulR Y.toNat Y'.toNat) := by
      rw [Obol.addR_eq, Obol.addQ, Obol.addQ, Nat.add_comm]
    rw [this])
  go_enter Try.func22, Try.ntmps22
  go_wp2_with fail
  go_quiet ((first | (go_at_call 60; first | (refine Calls.quiet_of (r7Mul _ _ ?_ ?_ _) <;> omega) | (refine quiet_add (r7Mul _ _ ?_ ?_ _) <;> omega))))
  go_wp2_with (first | (go_at_call 60; refine (r7Mul _ _ (by omega) (by omega) _).mono ?_; rintro e w' ⟨rfl, n, rfl⟩))
  go_quiet ((first | (go_at_call 60; first | (refine Calls.quiet_of (r7Mul _ _ ?_ ?_ _) <;> omega) | (refine quiet_add (r7Mul _ _ ?_ ?_ _) <;> omega)) | (go_at_call 61; first | (refine Calls.quiet_of (r7Plus _ _ ?_ ?_ _) <;> omega) | (refine quiet_add (r7Plus _ _ ?_ ?_ _) <;> omega))))
  go_wp2_with (first | (go_at_call 62; refine (r7Over _ _ (by omega) (by omega) _).mono ?_; rintro e w' ⟨rfl, n, rfl⟩) | (go_at_call 61; refine (r7Plus _ _ (by omega) (by omega) _).mono ?_; rintro e w' ⟨rfl, n, rfl⟩) | (go_at_call 63; refine (r7Less _ _ (by omega) (by omega) _).mono ?_; rintro e w' ⟨rfl, n, rfl⟩))
  go_quiet ((first | (go_at_call 60; first | (refine Calls.quiet_of (r7Mul _ _ ?_ ?_ _) <;> omega) | (refine quiet_add (r7Mul _ _ ?_ ?_ _) <;> omega)) | (go_at_call 61; first | (refine Calls.quiet_of (r7Plus _ _ ?_ ?_ _) <;> omega) | (refine quiet_add (r7Plus _ _ ?_ ?_ _) <;> omega))))
  go_wp2_with (first | (go_at_call 62; refine (r7Over _ _ (by omega) (by omega) _).mono ?_; rintro e w' ⟨rfl, n, rfl⟩) | (go_at_call 61; refine (r7Plus _ _ (by omega) (by omega) _).mono ?_; rintro e w' ⟨rfl, n, rfl⟩) | (go_at_call 63; refine (r7Less _ _ (by omega) (by omega) _).mono ?_; rintro e w' ⟨rfl, n, rfl⟩))
  refine bodyPost_ret (v := edV _ _) (by simp [results, Try.results22, go_sem]; exact ⟨rfl, rfl⟩) rfl ⟨?_, ?_⟩
  · rw [h0.out]
  · repeat (first | exact Below.refl _ _ | assumption | apply bDrewN | apply bDrew | apply bAlloc | refine bSet ?_ (by omega) | refine bThen ?_ (by assumption) (by simp <;> omega))

/-- What is known ahead of a multiple's next bit. -/
structure R7T (a : Nat × Nat) (k : Nat) (ox oy i : Int) : Prop where
  i0 : 0 ≤ i
  i1 : i ≤ 64
  x0 : 0 ≤ ox
  y0 : 0 ≤ oy
  eq : Obol.timesN a k (64 - i.toNat) (ox.toNat, oy.toNat) = Obol.timesN a k 64 Obol.zeroN

theorem timesN_next (a : Nat × Nat) (k j : Nat) (o : Nat × Nat) : Obol.timesN a k (j + 1) o = Obol.timesN a k j (if k / 2 ^ j % 2 = 1 then Obol.sumN (if o = Obol.zeroN then o else Obol.sumN o o) a else (if o = Obol.zeroN then o else Obol.sumN o o)) := rfl
theorem R7T.step {a : Nat × Nat} {k : Nat} {ox oy i : Int} {y : Int} (h : R7T a k ox oy i) (hk : k = y.toNat) (hy : 0 ≤ y) (hi : i < 64) {o : Nat × Nat} (ho : o = if (ox.toNat, oy.toNat) = Obol.zeroN then (ox.toNat, oy.toNat) else Obol.sumN (ox.toNat, oy.toNat) (ox.toNat, oy.toNat))
    {o' : Nat × Nat} (ho' : o' = if bitI y i = 1 then Obol.sumN o a else o) : R7T a k (o'.1 : Nat) (o'.2 : Nat) (i + 1) := by
  have i0 := h.i0
  refine ⟨by omega, by omega, by omega, by omega, ?_⟩
  have he := h.eq
  rw [show 64 - i.toNat = (63 - i.toNat) + 1 by omega, timesN_next, ← ho] at he
  have hb := bitI_toNat y i hy i0 hi
  rw [show 64 - (i + 1).toNat = 63 - i.toNat by omega, Int.toNat_natCast, Int.toNat_natCast]
  rw [← he, ho']
  by_cases hB : bitI y i = 1
  · rw [if_pos hB, if_pos (by rw [hk]; omega)]
  · rw [if_neg hB, if_neg (by rw [hk]; omega)]
theorem R7T.done {a : Nat × Nat} {k : Nat} {ox oy i : Int} (h : R7T a k ox oy i) (hi : ¬ i < 64) : edV ox oy = edV ((Obol.timesN a k 64 Obol.zeroN).1 : Nat) ((Obol.timesN a k 64 Obol.zeroN).2 : Nat) := by
  have i1 := h.i1
  have he := h.eq
  have x0 := h.x0
  have y0 := h.y0
  rw [show 64 - i.toNat = 0 by omega, Obol.timesN] at he
  rw [← he]
  show edV ox oy = edV ((ox.toNat : Nat) : Int) ((oy.toNat : Nat) : Int)
  rw [Int.toNat_of_nonneg x0, Int.toNat_of_nonneg y0]
theorem zero_or {ox oy : Int} (h0 : 0 ≤ ox) : ((ox.toNat, oy.toNat) = Obol.zeroN) ↔ (ox = 0 ∧ oy = 1) := by
  unfold Obol.zeroN
  rw [Prod.mk.injEq]
  omega

set_option maxHeartbeats 1000000 in
theorem r7Times (X Y k : Int) (hX : 0 ≤ X) (hY : 0 ≤ Y) (hk : 0 ≤ k) (hk1 : k ≤ 18446744073709551615) (w : World) :
    Calls Try.prog 26 #[edV X Y, .int .u64 k] w fun e w' =>
      e = .returned (edV ((Obol.timesN (X.toNat, Y.toNat) k.toNat 64 Obol.zeroN).1 : Nat) ((Obol.timesN (X.toNat, Y.toNat) k.toNat 64 Obol.zeroN).2 : Nat)) ∧ Below w.heap.size w w' := by
  have I0 : Hid (R7T (X.toNat, Y.toNat) k.toNat 0 1 0) := Lib.hid ⟨by omega, by omega, by omega, by omega, rfl⟩
  go_enter Try.func26, Try.ntmps26
  go_wp2_with fail
  go_loopw [6] (fun c wr => ∃ ox oy i : Int, c = .int .i64 i ∧ Row wr w.heap.size #[.int .u64 X, .int .u64 Y] 24 ∧ Row wr (w.heap.size + 1) #[.int .u64 0, .int .u64 0] 24 ∧ Row wr (w.heap.size + 2) #[.int .u64 ox, .int .u64 oy] 24 ∧
    Below w.heap.size w wr ∧ Hid (R7T (X.toNat, Y.toNat) k.toNat ox oy i)) (fun c _ => (64 - intOf c).toNat)
  case atStart => exact ⟨0, 1, 0, rfl, by repeat (first | assumption | exact Row.newAt _ _ (by simp) | apply Row.alloc | apply Row.drewN | apply Row.drew | refine Row.other ?_ (by omega)), by repeat (first | assumption | exact Row.newAt _ _ (by simp) | apply Row.alloc | apply Row.drewN | apply Row.drew | refine Row.other ?_ (by omega)), by repeat (first | assumption | exact Row.newAt _ _ (by simp) | apply Row.alloc | apply Row.drewN | apply Row.drew | refine Row.other ?_ (by omega)), by repeat (first | exact Below.refl _ _ | assumption | apply bDrewN | apply bDrew | apply bAlloc | refine bSet ?_ (by omega) | refine bThen ?_ (by assumption) (by simp <;> omega)), I0⟩
  case round =>
    clear I0
    obtain ⟨ox, oy, i, rfl, Ra, Rr, Ro, hb, HI⟩ := hrel
    have i0 := HI.out.i0
    have i1 := HI.out.i1
    have o1 := HI.out.x0
    have o2 := HI.out.y0
    have ea := bitI_bits k i hk hk1
    have q0 := Ro.cell 0 rfl
    have q1 := Ro.cell 1 rfl
    have p0 := Ra.cell 0 rfl
    have p1 := Ra.cell 1 rfl
    have f0 := Ro.free 0
    have f1 := Ro.free 1
    by_cases hi : i < 64
    · by_cases hz : ox = 0 ∧ oy = 1
      · obtain ⟨rfl, rfl⟩ := hz
        have HS := fun o' => Lib.hid (HI.out.step (y := k) (o := (0, 1)) (o' := o') rfl hk hi (by rw [if_pos]; rfl; rfl))
        rcases bitI_01 k i with hB | hB
        · have HN := Lib.hid ((HS (0, 1)).out (by rw [hB]; rfl))
          rw [hB] at ea
          clear HS
          go_wp2_with fail
          exact ⟨⟨_, _, _, rfl, Ra, Rr, Ro, hb, HN⟩, by simp [intOf]; omega⟩
        · have HN := Lib.hid ((HS _).out (by rw [if_pos hB]))
          rw [hB] at ea
          clear HS
          go_wp2_with fail
          refine (r7Sum _ _ _ _ (by omega) (by omega) (by omega) (by omega) _).mono ?_
          rintro e w3 ⟨rfl, hb3⟩
          replace hb := bThen hb hb3 hb.size
          replace Ra := Ra.below hb3 Ra.lt
          replace Rr := Rr.below hb3 Rr.lt
          replace Ro := Ro.below hb3 Ro.lt
          clear q0 q1 p0 p1 f0 f1 hb3
          have f0 := Ro.free 0
          have f1 := Ro.free 1
          have q0 := Ro.cell 0 rfl
          have q1 := Ro.cell 1 rfl
          go_wp2_with fail
          exact ⟨⟨_, _, _, rfl, (Ra.other (by omega)).other (by omega), (Rr.other (by omega)).other (by omega), Ro.set2, bSet (bSet hb (by omega)) (by omega), HN⟩, by simp [intOf]; omega⟩
      · have hz0 : ¬ (ox.toNat, oy.toNat) = Obol.zeroN := fun e => hz ((zero_or o1).1 e)
        have HS := fun o' => Lib.hid (HI.out.step (y := k) (o := Obol.sumN (ox.toNat, oy.toNat) (ox.toNat, oy.toNat)) (o' := o') rfl hk hi (by rw [if_neg hz0]))
        have hz' : ¬ (ox = 0 ∧ oy = 1) := hz
        have HM : Hid (Obol.sumN (ox.toNat, oy.toNat) (ox.toNat, oy.toNat) = ((((Obol.sumN (ox.toNat, oy.toNat) (ox.toNat, oy.toNat)).1 : Nat) : Int).toNat, (((Obol.sumN (ox.toNat, oy.toNat) (ox.toNat, oy.toNat)).2 : Nat) : Int).toNat)) := Lib.hid (by rw [Int.toNat_natCast, Int.toNat_natCast])
        have HB : Hid (∀ Q : Prop, (ox ≠ 0 → Q) → (ox = 0 → oy ≠ 1 → Q) → Q) := Lib.hid (fun Q h1 h2 => by by_cases hx : ox = 0; exact h2 hx (fun hy => hz ⟨hx, hy⟩); exact h1 hx)
        clear hz hz0 hz'
        refine HB.out _ (fun hx => ?_) (fun hx hy => ?_)
        all_goals (try subst hx)
        all_goals rcases bitI_01 k i with hB | hB
        all_goals
          first
            | (have HN := Lib.hid ((HS _).out (by rw [if_pos hB]))
               rw [HM.out] at HN
               rw [hB] at ea
               clear HS HB
               go_wp2_with fail
               refine (r7Sum _ _ _ _ (by omega) (by omega) (by omega) (by omega) _).mono ?_
               rintro e w3 ⟨rfl, hb3⟩
               replace hb := bThen hb hb3 hb.size
               replace Ra := Ra.below hb3 Ra.lt
               replace Rr := Rr.below hb3 Rr.lt
               replace Ro := Ro.below hb3 Ro.lt
               clear q0 q1 p0 p1 f0 f1 hb3
               have f0 := Ro.free 0
               have f1 := Ro.free 1
               have q0 := Ro.cell 0 rfl
               have q1 := Ro.cell 1 rfl
               have p0 := Ra.cell 0 rfl
               have p1 := Ra.cell 1 rfl
               go_wp2_with fail
               refine (r7Sum _ _ _ _ (by omega) (by omega) (by omega) (by omega) _).mono ?_
               rintro e w4 ⟨rfl, hb4⟩
               replace hb := bThen (bSet (bSet hb (b := w.heap.size + 2) (by omega)) (b := w.heap.size + 2) (by omega)) hb4 (bSet (bSet hb (b := w.heap.size + 2) (by omega)) (b := w.heap.size + 2) (by omega)).size
               replace Ra := ((Ra.other (by omega)).other (by omega)).below hb4 ((Ra.other (by omega)).other (by omega)).lt
               replace Rr := ((Rr.other (by omega)).other (by omega)).below hb4 ((Rr.other (by omega)).other (by omega)).lt
               replace Ro := Ro.set2.below hb4 Ro.set2.lt
               clear q0 q1 p0 p1 f0 f1 hb4
               have f0 := Ro.free 0
               have f1 := Ro.free 1
               have q0 := Ro.cell 0 rfl
               have q1 := Ro.cell 1 rfl
               go_wp2_with fail
               exact ⟨⟨_, _, _, rfl, (Ra.other (by omega)).other (by omega), (Rr.other (by omega)).other (by omega), Ro.set2, bSet (bSet hb (by omega)) (by omega), HN⟩, by simp [intOf]; omega⟩)
            | (have HN := Lib.hid ((HS _).out (by rw [if_neg (show ¬ bitI k i = 1 by omega)]))
               rw [hB] at ea
               clear HS HB
               go_wp2_with fail
               refine (r7Sum _ _ _ _ (by omega) (by omega) (by omega) (by omega) _).mono ?_
               rintro e w3 ⟨rfl, hb3⟩
               replace hb := bThen hb hb3 hb.size
               replace Ra := Ra.below hb3 Ra.lt
               replace Rr := Rr.below hb3 Rr.lt
               replace Ro := Ro.below hb3 Ro.lt
               clear q0 q1 p0 p1 f0 f1 hb3
               have f0 := Ro.free 0
               have f1 := Ro.free 1
               have q0 := Ro.cell 0 rfl
               have q1 := Ro.cell 1 rfl
               go_wp2_with fail
               exact ⟨⟨_, _, _, rfl, (Ra.other (by omega)).other (by omega), (Rr.other (by omega)).other (by omega), Ro.set2, bSet (bSet hb (by omega)) (by omega), HN⟩, by simp [intOf]; omega⟩)
    · have HD := Lib.hid (HI.out.done hi)
      have r0 := Rr.cell 0 rfl
      have r1 := Rr.cell 1 rfl
      have fr0 := Rr.free 0
      have fr1 := Rr.free 1
      clear HI
      go_wp2_with fail
      refine bodyPost_ret (v := edV ox oy) (by simp [results, Try.results26, go_sem, r0, r1]) rfl ⟨by rw [HD.out], ?_⟩
      repeat (first | exact Below.refl _ _ | assumption | apply bDrewN | apply bDrew | apply bAlloc | refine bSet ?_ (by omega) | refine bThen ?_ (by assumption) (by simp <;> omega))

end Go.Proofs.Ytgafgfmoofjmmaa
