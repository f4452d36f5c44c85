import Derived.Test.YtcdfpceagobicaaDoorWed3
import Derived.Test.YtcdfpceagobicaaDoorRoots
/- Walks: package modular: roots. -/
namespace Go.Proofs.YtcdfpceagobicaaDoor
open Go.RowKit

theorem litH : (144115188143882240 : Int).toNat = (Obol.R - 1) / 2 := by decide +kernel
theorem lit3 : (3 : Int).toNat = 3 := rfl
theorem RPow (a e : Int) (ha : 0 ≤ a) (he : 0 ≤ e) (he1 : e ≤ 18446744073709551615) (w : World) :
    Calls Tryd.prog 32 #[.int .u64 288230376287764481, .int .u64 a, .int .u64 e] w fun r w' => r = .returned (.int .u64 ((Obol.powR a.toNat e.toNat : Nat) : Int)) ∧ ∃ n, w' = w.drewN n := by
  have h := mPow 288230376287764481 a e (by omega) (by omega) ha he he1 w
  rw [litR] at h
  rw [Obol.powM, ← Obol.powR_eq] at h
  exact h

/-- What an error value of package api is. -/
abbrev errV (k : Int) : Value := .iface 28 (.int .i64 k)
noncomputable abbrev rootV (a : Nat) : Value := if Obol.sqB a = true then .tuple #[.int .u64 (if a % Obol.R = 0 then 0 else (Obol.rootN a : Nat)), .nilIface] else .tuple #[.int .u64 0, errV 2]

/-- The root that is told. -/
def RootI' (a : Nat) (x : Int) : Prop := x = ((Obol.rootN a : Nat) : Int)

/-- The loop that halves R - 1. -/
structure OddI (O T : Int) : Prop where
  t0 : 0 ≤ T
  t1 : T ≤ 18
  eq : O = 1099511628295 * 2 ^ (18 - T.toNat)
theorem OddI.pos {O T : Int} (h : OddI O T) : 1 ≤ O ∧ O ≤ 288230376287764480 := by
  have h1 : (1 : Int) ≤ 2 ^ (18 - T.toNat) := Int.add_one_le_of_lt (Int.pow_pos (by omega))
  have h2 : 2 ^ (18 - T.toNat) ≤ 2 ^ 18 := Nat.pow_le_pow_right (by omega) (by omega)
  have h3 : ((2 ^ (18 - T.toNat) : Nat) : Int) = 2 ^ (18 - T.toNat) := by rw [Int.natCast_pow]; rfl
  rw [h.eq]
  omega
theorem OddI.step {O T : Int} (h : OddI O T) (ht : T < 18) : O % 2 = 0 ∧ OddI (O / 2) (T + 1) := by
  have t0 := h.t0
  have e : O = 1099511628295 * 2 ^ (18 - (T + 1).toNat) * 2 := by
    rw [h.eq, show 18 - T.toNat = 18 - (T + 1).toNat + 1 by omega, Int.pow_succ, Int.mul_assoc]
  generalize hz : (1099511628295 : Int) * 2 ^ (18 - (T + 1).toNat) = z at e
  exact ⟨by omega, by omega, by omega, by omega⟩
theorem OddI.last {O : Int} (h : OddI O 18) : O = 1099511628295 := by
  rw [h.eq]
  decide

set_option maxHeartbeats 2000000 in
theorem mRoot (a : Int) (ha : 0 ≤ a) (w : World) :
    Calls Tryd.prog 45 #[.int .u64 a] w fun e w' => e = .returned (rootV a.toNat) ∧ ∃ n, w' = w.drewN n := by
  have h1 : 0 ≤ a % 288230376287764481 := by omega
  have e1 : a.tmod 288230376287764481 = a % 288230376287764481 := Int.tmod_eq_emod_of_nonneg ha
  have hmod : a.toNat % Obol.R = (a % 288230376287764481).toNat := by rw [Obol.R_def]; omega
  by_cases h0 : a % 288230376287764481 = 0
  · have hR : Hid (Value.tuple #[Value.int .u64 0, Value.nilIface] = rootV a.toNat) := Lib.hid (by
      have hz : a.toNat % Obol.R = 0 := by rw [hmod, h0]; rfl
      have : Obol.sqB a.toNat = true := by unfold Obol.sqB; rw [hz]; rfl
      unfold rootV
      rw [if_pos this, if_pos hz])
    clear hmod
    go_enter Tryd.func45, Tryd.ntmps45
    go_wp2_with fail
    go_ret2
    exact ⟨congrArg Ending.returned hR.out, 0, rfl⟩
  · obtain ⟨y, hy⟩ : ∃ y : Int, y = a % 288230376287764481 := ⟨_, rfl⟩
    have hH := fun w => RPow (a % 288230376287764481) 144115188143882240 h1 (by omega) (by omega) w
    rw [litH] at hH
    have hpw : Obol.powR (a % 288230376287764481).toNat ((Obol.R - 1) / 2) = a.toNat ^ ((Obol.R - 1) / 2) % Obol.R := by
      rw [Obol.powR_eq, ← hmod, ← Nat.pow_mod]
    rw [hpw] at hH
    have hsq : Obol.sqB a.toNat = (a.toNat ^ ((Obol.R - 1) / 2) % Obol.R == 1) := by
      unfold Obol.sqB
      have : (a.toNat % Obol.R == 0) = false := by rw [beq_eq_false_iff_ne, hmod]; omega
      rw [this, Bool.false_or]
    have hz : a.toNat % Obol.R ≠ 0 := by rw [hmod]; omega
    obtain ⟨pw, hpw2⟩ : ∃ z : Int, z = ((a.toNat ^ ((Obol.R - 1) / 2) % Obol.R : Nat) : Int) := ⟨_, rfl⟩
    rw [← hpw2] at hH
    by_cases hs : a.toNat ^ ((Obol.R - 1) / 2) % Obol.R = 1
    · have hB : Obol.sqB a.toNat = true := by rw [hsq, hs]; rfl
      have hR : Hid (∀ x : Int, RootI' a.toNat x → Value.tuple #[Value.int .u64 x, Value.nilIface] = rootV a.toNat) := Lib.hid (fun x hx => by
        unfold rootV
        rw [if_pos hB, if_neg hz, hx])
      have hp1 : pw = 1 := by rw [hpw2, hs]; rfl
      rw [hp1] at hH
      have I0 : Hid (Obol.RootI (a % 288230376287764481).toNat _ _ _ _) := Lib.hid (Obol.RootI.start (a := a % 288230376287764481) (by rw [← hmod, ← Nat.pow_mod]; exact hs))
      have P1 := fun w => RPow 3 1099511628295 (by omega) (by omega) (by omega) w
      have P2 := fun w => RPow (a % 288230376287764481) 1099511628295 h1 (by omega) (by omega) w
      have P3 := fun w => RPow (a % 288230376287764481) 549755814148 h1 (by omega) (by omega) w
      have l1 : (1099511628295 : Int).toNat = Obol.oddR := by decide +kernel
      have l2 : (549755814148 : Int).toNat = Obol.oddH := by decide +kernel
      rw [l1, lit3] at P1
      rw [l1] at P2
      rw [l2] at P3
      generalize ((Obol.powR 3 Obol.oddR : Nat) : Int) = c at I0 P1
      generalize ((Obol.powR (a % 288230376287764481).toNat Obol.oddR : Nat) : Int) = t at I0 P2
      generalize ((Obol.powR (a % 288230376287764481).toNat Obol.oddH : Nat) : Int) = x at I0 P3
      have hD : Hid (∀ c x w : Int, Obol.RootI (a % 288230376287764481).toNat c 1 x w → 0 ≤ x ∧ x < 288230376287764481 ∧ RootI' a.toNat (min x (288230376287764481 - x))) := Lib.hid (fun c x w h => by
        have hq := h.done (by unfold Obol.sqB; rw [← hmod, Nat.mod_mod, ← Nat.pow_mod, hs]; simp) (by rw [← hmod, Nat.mod_mod]; exact hz)
        refine ⟨h.x0, hq.1, ?_⟩
        unfold RootI'
        have hr : Obol.rootN (a % 288230376287764481).toNat = Obol.rootN a.toNat := by
          have hb : Obol.sqB (a % 288230376287764481).toNat = true := by unfold Obol.sqB; rw [← hmod, Nat.mod_mod, ← Nat.pow_mod, hs]; simp
          exact Obol.rootN_is hB (Obol.rootN_ok hb).1 ((Obol.rootN_ok hb).2.trans (by rw [← hmod, Nat.mod_mod]))
        rw [← hr, ← hq.2]
        have hl := hq.1
        rw [Obol.R_def] at *
        split <;> omega)
      replace hH := Lib.hid hH
      replace P1 := Lib.hid P1
      replace P2 := Lib.hid P2
      replace P3 := Lib.hid P3
      generalize a % 288230376287764481 = m at *
      clear hsq hz hB hs hp1 hpw2 hpw l1 l2 hmod hy
      go_enter Tryd.func45, Tryd.ntmps45
      go_wp2_with (go_at_call 32; refine (hH.out _).mono ?_; rintro e w' ⟨rfl, n, rfl⟩)
      go_loop [4, 5] (fun o c => ∃ O T : Int, o = .int .u64 O ∧ c = .int .i64 T ∧ Hid (OddI O T)) (fun _ c => (18 - intOf c).toNat)
      case atStart => exact ⟨288230376287764480, 0, rfl, rfl, Lib.hid ⟨by omega, by omega, by decide⟩⟩
      case round =>
        obtain ⟨O, T, rfl, rfl, HO⟩ := hrel
        have t0 := HO.out.t0
        have t1 := HO.out.t1
        obtain ⟨o0, o1⟩ := HO.out.pos
        by_cases ht : T < 18
        · have HN := Lib.hid (HO.out.step ht).2
          have hm2 := (HO.out.step ht).1
          go_wp2_with fail
          go_round
          case rel => exact ⟨_, _, rfl, rfl, HN⟩
          case measure => simp [intOf]; omega
        · obtain rfl : T = 18 := by omega
          obtain rfl := HO.out.last
          go_wp2_with (first
            | (go_at_call_of 32 (Value.int IntKind.u64 3); refine (P1.out _).mono ?_; rintro e w' ⟨rfl, n1, rfl⟩)
            | (go_at_call_of 32 (Value.int IntKind.u64 1099511628295); refine (P2.out _).mono ?_; rintro e w' ⟨rfl, n2, rfl⟩)
            | (go_at_call_of 32 (Value.int IntKind.u64 549755814148); refine (P3.out _).mono ?_; rintro e w' ⟨rfl, n3, rfl⟩))
          clear hH P1 P2 P3 HO
          go_loopw [5, 6, 7, 8] (fun q1 q2 q3 q4 wr => ∃ v c t x : Int, q1 = .int .i64 v ∧ q2 = .int .u64 c ∧ q3 = .int .u64 t ∧ q4 = .int .u64 x ∧ Hid (Obol.RootI m.toNat c t x v) ∧ ∃ n, wr = w.drewN n) (fun q1 _ _ _ _ => (intOf q1).toNat)
          case atStart => exact ⟨18, c, t, x, rfl, rfl, rfl, rfl, I0, _, rfl⟩
          case round =>
            clear I0
            obtain ⟨v, c, t, x, rfl, rfl, rfl, rfl, HI, n, rfl⟩ := hrel
            have i1 := HI.out.c0
            have i2 := HI.out.t0
            have i3 := HI.out.x0
            have i4 := HI.out.w0
            have i5 := HI.out.w1
            by_cases ht : t = 1
            · subst ht
              obtain ⟨b1, b2, b3⟩ := hD.out _ _ _ HI.out
              have HF := Lib.hid (hR.out _ b3)
              clear b3
              go_wp2_with fail
              go_ret2
              exact ⟨congrArg Ending.returned HF.out, _, rfl⟩
            · have S0 := Lib.hid HI.out.inner
              have htb : (t != 1) = true := bne_iff_ne.2 ht
              replace ht := Lib.hid ht
              go_wp2_with fail
              go_loopw [9, 10] (fun q1 q2 wr => ∃ i s : Int, q1 = .int .i64 i ∧ q2 = .int .u64 s ∧ Hid (Obol.RootS t.toNat v.toNat i s) ∧ ∃ n, wr = w.drewN n) (fun q1 _ _ => (18 - intOf q1).toNat)
              case atStart => exact ⟨0, t, rfl, rfl, S0, _, rfl⟩
              case round =>
                clear S0
                obtain ⟨i, s, rfl, rfl, HS, n, rfl⟩ := hrel
                have k0 := HS.out.i0
                have k1 : i < v := by have := HS.out.i1; omega
                have k2 := HS.out.s0
                by_cases hs1 : s = 1
                · subst hs1
                  have B0 := Lib.hid (Obol.RootB.start (n := v - i - 1) HI.out (by omega))
                  go_wp2_with fail
                  go_loopw [11, 52] (fun q1 q2 wr => ∃ b j : Int, q1 = .int .u64 b ∧ q2 = .int .i64 j ∧ Hid (Obol.RootB c.toNat (v - i - 1) b j) ∧ ∃ n, wr = w.drewN n) (fun _ q2 _ => (18 - intOf q2).toNat)
                  case atStart => exact ⟨c, 0, rfl, rfl, B0, _, rfl⟩
                  case round =>
                    clear B0
                    obtain ⟨b, j, rfl, rfl, HB, n, rfl⟩ := hrel
                    have l0 := HB.out.j0
                    have l1 := HB.out.j1
                    have l2 := HB.out.b0
                    by_cases hj : j < v - i - 1
                    · have HN := Lib.hid (HB.out.step hj)
                      go_wp2_with (go_at_call 44; refine (RMul _ _ (by omega) (by omega) _).mono ?_; rintro e w' ⟨rfl, n', rfl⟩)
                      go_roundw
                      case rel => exact ⟨_, _, rfl, rfl, HN, _, rfl⟩
                      case measure => simp [intOf]; omega
                    · obtain ⟨hn1, hn2⟩ := HI.out.step HS.out ht.out rfl HB.out hj
                      have HN := Lib.hid hn1
                      clear hn1
                      go_wp2_with (go_at_call 44; refine (RMul _ _ (by omega) (by omega) _).mono ?_; rintro e w' ⟨rfl, n', rfl⟩)
                      go_roundw
                      case rel => exact ⟨_, _, _, _, rfl, rfl, rfl, rfl, HN, _, rfl⟩
                      case measure => simp [intOf]; omega
                · have HN := Lib.hid (HS.out.step HI.out hs1)
                  go_wp2_with (go_at_call 44; refine (RMul _ _ (by omega) (by omega) _).mono ?_; rintro e w' ⟨rfl, n', rfl⟩)
                  go_roundw
                  case rel => exact ⟨_, _, rfl, rfl, HN, _, rfl⟩
                  case measure => simp [intOf]; omega
    · have hB : Obol.sqB a.toNat = false := by rw [hsq, beq_eq_false_iff_ne]; exact hs
      have hR : Hid (Value.tuple #[Value.int .u64 0, errV 2] = rootV a.toNat) := Lib.hid (by
        unfold rootV
        rw [hB]
        rfl)
      have hp1 : pw ≠ 1 := by rw [hpw2]; omega
      replace hH := Lib.hid hH
      clear hmod hsq hz hpw hpw2 hs hB
      generalize a % 288230376287764481 = m at *
      go_enter Tryd.func45, Tryd.ntmps45
      go_wp2_with (go_at_call 32; refine (hH.out _).mono ?_; rintro e w' ⟨rfl, n, rfl⟩)
      go_ret2
      exact ⟨congrArg Ending.returned hR.out, n, rfl⟩

end Go.Proofs.YtcdfpceagobicaaDoor
