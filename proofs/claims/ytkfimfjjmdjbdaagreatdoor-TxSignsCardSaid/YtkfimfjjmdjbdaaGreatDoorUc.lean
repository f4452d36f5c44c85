import Derived.Test.YtkfimfjjmdjbdaaGreatDoorUb
import Derived.Test.YtkfimfjjmdjbdaaGreatDoorUa
import Derived.Deep.RegionWith
import Derived.BigRegion
import Derived.Deep.MidRow
set_option linter.unusedVariables false
set_option linter.unusedSimpArgs false
set_option linter.unusedSectionVars false
/- The root that isn't above R / 2; the loops that find it. -/
namespace Obol

theorem R_odd : R % 2 = 1 := by decide +kernel
theorem half_unique {x y : Nat} (hx : 2 * x ≤ R) (hy : 2 * y ≤ R) (h : x * x % R = y * y % R) : x = y := by
  have h1 := R_two
  have h2 := R_odd
  rcases two_roots (x := x) (y := y) (by omega) (by omega) h with e | e
  · exact e
  · omega
theorem half_exists {a : Nat} (h : sqB a = true) : ∃ x, 2 * x ≤ R ∧ x * x % R = a % R := by
  obtain ⟨x, hx, e⟩ := (sqB_iff a).1 h
  by_cases h2 : 2 * x ≤ R
  · exact ⟨x, h2, e⟩
  · refine ⟨R - x, by omega, ?_⟩
    rw [← e]
    have h3 : (R - x) * (R - x) + (2 * R * x) = R * R + x * x := by
      obtain ⟨k, hk⟩ := Nat.exists_eq_add_of_le (Nat.le_of_lt hx)
      rw [hk, Nat.add_sub_cancel_left]
      grind
    have h4 : ((R - x) * (R - x) + R * (2 * x)) % R = (x * x + R * R) % R := by
      rw [show R * (2 * x) = 2 * R * x by grind, h3, Nat.add_comm]
    rw [Nat.add_mul_mod_self_left, Nat.add_mul_mod_self_left] at h4
    exact h4
open Classical in
noncomputable def rootN : Nat → Nat := (shut fun (a : Nat) => if h : sqB a = true then choose (half_exists h) else 0).1
theorem rootN_ok {a : Nat} (h : sqB a = true) : 2 * rootN a ≤ R ∧ rootN a * rootN a % R = a % R := by
  have e : rootN a = _ := congrFun (shut fun (a : Nat) => if h : sqB a = true then Classical.choose (half_exists h) else 0).2 a
  rw [e, dif_pos h]
  exact Classical.choose_spec (half_exists h)
theorem rootN_is {a x : Nat} (h : sqB a = true) (hx : 2 * x ≤ R) (e : x * x % R = a % R) : x = rootN a :=
  half_unique hx (rootN_ok h).1 (e.trans (rootN_ok h).2.symm)

noncomputable def powR : Nat → Nat → Nat := (shut fun a e : Nat => a ^ e % R).1
theorem powR_eq (a e : Nat) : powR a e = a ^ e % R := congrFun (congrFun (shut fun a e : Nat => a ^ e % R).2 a) e

/-- What is known ahead of each round. -/
structure RootI (a : Nat) (c t x w : Int) : Prop where
  c0 : 0 ≤ c
  t0 : 0 ≤ t
  x0 : 0 ≤ x
  w0 : 1 ≤ w
  w1 : w ≤ 18
  ts : TS a c.toNat t.toNat x.toNat w.toNat
structure RootS (t w : Nat) (i s : Int) : Prop where
  i0 : 0 ≤ i
  i1 : i < w
  s0 : 0 ≤ s
  eq : s.toNat = t ^ 2 ^ i.toNat % R
  no : ∀ j, j < i.toNat → t ^ 2 ^ j % R ≠ 1
structure RootB (c : Nat) (n b j : Int) : Prop where
  j0 : 0 ≤ j
  j1 : j ≤ n
  b0 : 0 ≤ b
  eq : b.toNat = c ^ 2 ^ j.toNat % R

theorem RootI.start {a : Int} (h : a.toNat ^ ((R - 1) / 2) % R = 1) :
    RootI a.toNat ((powR 3 oddR : Nat) : Int) ((powR a.toNat oddR : Nat) : Int) ((powR a.toNat oddH : Nat) : Int) 18 := by
  refine ⟨by omega, by omega, by omega, by omega, by omega, ?_⟩
  rw [Int.toNat_natCast, Int.toNat_natCast, Int.toNat_natCast, powR_eq, powR_eq, powR_eq]
  exact TS.init rfl h
theorem RootI.inner {a : Nat} {c t x w : Int} (h : RootI a c t x w) : RootS t.toNat w.toNat 0 t := by
  have := h.ts.w_pos
  refine ⟨by omega, by omega, h.t0, ?_, fun j hj => by omega⟩
  rw [show (0 : Int).toNat = 0 from rfl, Nat.pow_zero, Nat.pow_one, Nat.mod_eq_of_lt h.ts.t_lt]
theorem RootS.step {a : Nat} {c t x w i s : Int} (h : RootI a c t x w) (k : RootS t.toNat w.toNat i s) (hs : s ≠ 1) : RootS t.toNat w.toNat (i + 1) ((mulR s.toNat s.toNat : Nat) : Int) := by
  have i0 := k.i0
  have i1 := k.i1
  have s0 := k.s0
  have w0 := h.w0
  have he := k.eq
  have hne : t.toNat ^ 2 ^ i.toNat % R ≠ 1 := by rw [← he]; omega
  refine ⟨by omega, ?_, by omega, ?_, ?_⟩
  · refine Classical.byContradiction fun hn => hne ?_
    have : i.toNat = w.toNat - 1 := by omega
    rw [this]
    exact h.ts.tp
  · rw [Int.toNat_natCast, mulR_eq, mulQ, he, sq_pow, show (i + 1).toNat = i.toNat + 1 by omega]
  · intro j hj
    by_cases e : j = i.toNat
    · rw [e]; exact hne
    · exact k.no j (by omega)
theorem RootB.start {a : Nat} {c t x w n : Int} (h : RootI a c t x w) (hn : 0 ≤ n) : RootB c.toNat n c 0 := by
  refine ⟨by omega, hn, h.c0, ?_⟩
  rw [show (0 : Int).toNat = 0 from rfl, Nat.pow_zero, Nat.pow_one, Nat.mod_eq_of_lt h.ts.c_lt]
theorem RootB.step {c : Nat} {n b j : Int} (h : RootB c n b j) (hj : j < n) : RootB c n ((mulR b.toNat b.toNat : Nat) : Int) (j + 1) := by
  have j0 := h.j0
  refine ⟨by omega, by omega, by omega, ?_⟩
  rw [Int.toNat_natCast, mulR_eq, mulQ, h.eq, sq_pow, show (j + 1).toNat = j.toNat + 1 by omega]
theorem RootI.step {a : Nat} {c t x w i b j n : Int} (h : RootI a c t x w) (k : RootS t.toNat w.toNat i 1) (ht : t ≠ 1) (hn : n = w - i - 1) (g : RootB c.toNat n b j) (hj : ¬ j < n) :
    RootI a ((mulR b.toNat b.toNat : Nat) : Int) ((mulR t.toNat (mulR b.toNat b.toNat) : Nat) : Int) ((mulR x.toNat b.toNat : Nat) : Int) i ∧ i < w := by
  have t0 := h.t0
  have w0 := h.w0
  have w1 := h.w1
  have i0 := k.i0
  have i1 := k.i1
  have j1 := g.j1
  have he := k.eq
  have h0 : 0 < i.toNat := by
    refine Nat.pos_of_ne_zero fun e => ht ?_
    rw [e, Nat.pow_zero, Nat.pow_one, Nat.mod_eq_of_lt h.ts.t_lt] at he
    omega
  have hb : b.toNat = c.toNat ^ 2 ^ (w.toNat - i.toNat - 1) % R := by
    rw [g.eq]
    congr 2
    congr 1
    omega
  obtain ⟨hlt, ts⟩ := h.ts.step h0 (by rw [← he]; rfl) k.no hb
  refine ⟨⟨by omega, by omega, by omega, by omega, by omega, ?_⟩, by omega⟩
  rw [Int.toNat_natCast, Int.toNat_natCast, Int.toNat_natCast, mulR_eq]
  exact ts
theorem RootI.done {a : Nat} {c x w : Int} (h : RootI a c 1 x w) (ha : sqB a = true) (h0 : a % R ≠ 0) : x < R ∧ (if x < R - x then x else R - x) = ((rootN a : Nat) : Int) := by
  have x0 := h.x0
  have xl := h.ts.x_lt
  have hr := h.ts.root
  rw [show (1 : Int).toNat = 1 from rfl, Nat.mul_one] at hr
  have hp : x.toNat ≠ 0 := fun e => by
    rw [e, Nat.zero_mul, Nat.zero_mod] at hr
    exact h0 hr.symm
  have ho := rootN_ok ha
  refine ⟨by omega, ?_⟩
  rcases two_roots (x := x.toNat) (y := rootN a) xl (by have := R_two; omega) (hr.trans ho.2.symm) with e | e
  · split <;> omega
  · split <;> omega

end Obol
/- Walks: package modular: roots. -/
namespace Go.Proofs.YtkfimfjjmdjbdaaGreatDoor
open Go.RowKit

theorem litH : (144115188143882240 : Int).toNat = (Obol.R - 1) / 2 := by decide +kernel
theorem lit3 : (3 : Int).toNat = 3 := rfl
theorem RPow (a e : Int) (ha : 0 ≤ a) (he : 0 ≤ e) (he1 : e ≤ 18446744073709551615) (w : World) :
    Calls Tryz.prog 65 #[.int .u64 288230376287764481, .int .u64 a, .int .u64 e] w fun r w' => r = .returned (.int .u64 ((Obol.powR a.toNat e.toNat : Nat) : Int)) ∧ ∃ n, w' = w.drewN n := by
  have h := mPow 288230376287764481 a e (by omega) (by omega) ha he he1 w
  rw [litR] at h
  rw [Obol.powM, ← Obol.powR_eq] at h
  exact h

/-- What an error value of package api is. -/
abbrev errV (k : Int) : Value := .iface 50 (.int .i64 k)
noncomputable abbrev rootV (a : Nat) : Value := if Obol.sqB a = true then .tuple #[.int .u64 (if a % Obol.R = 0 then 0 else (Obol.rootN a : Nat)), .nilIface] else .tuple #[.int .u64 0, errV 2]

/-- The root that is told. -/
def RootI' (a : Nat) (x : Int) : Prop := x = ((Obol.rootN a : Nat) : Int)

/-- The loop that halves R - 1. -/
structure OddI (O T : Int) : Prop where
  t0 : 0 ≤ T
  t1 : T ≤ 18
  eq : O = 1099511628295 * 2 ^ (18 - T.toNat)
theorem OddI.pos {O T : Int} (h : OddI O T) : 1 ≤ O ∧ O ≤ 288230376287764480 := by
  have h1 : (1 : Int) ≤ 2 ^ (18 - T.toNat) := Int.add_one_le_of_lt (Int.pow_pos (by omega))
  have h2 : 2 ^ (18 - T.toNat) ≤ 2 ^ 18 := Nat.pow_le_pow_right (by omega) (by omega)
  have h3 : ((2 ^ (18 - T.toNat) : Nat) : Int) = 2 ^ (18 - T.toNat) := by rw [Int.natCast_pow]; rfl
  rw [h.eq]
  omega
theorem OddI.step {O T : Int} (h : OddI O T) (ht : T < 18) : O % 2 = 0 ∧ OddI (O / 2) (T + 1) := by
  have t0 := h.t0
  have e : O = 1099511628295 * 2 ^ (18 - (T + 1).toNat) * 2 := by
    rw [h.eq, show 18 - T.toNat = 18 - (T + 1).toNat + 1 by omega, Int.pow_succ, Int.mul_assoc]
  generalize hz : (1099511628295 : Int) * 2 ^ (18 - (T + 1).toNat) = z at e
  exact ⟨by omega, by omega, by omega, by omega⟩
theorem OddI.last {O : Int} (h : OddI O 18) : O = 1099511628295 := by
  rw [h.eq]
  decide

set_option maxHeartbeats 2000000 in
theorem mRoot (a : Int) (ha : 0 ≤ a) (w : World) :
    Calls Tryz.prog 111 #[.int .u64 a] w fun e w' => e = .returned (rootV a.toNat) ∧ ∃ n, w' = w.drewN n := by
  have h1 : 0 ≤ a % 288230376287764481 := by omega
  have e1 : a.tmod 288230376287764481 = a % 288230376287764481 := Int.tmod_eq_emod_of_nonneg ha
  have hmod : a.toNat % Obol.R = (a % 288230376287764481).toNat := by rw [Obol.R_def]; omega
  by_cases h0 : a % 288230376287764481 = 0
  · have hR : Hid (Value.tuple #[Value.int .u64 0, Value.nilIface] = rootV a.toNat) := Lib.hid (by
      have hz : a.toNat % Obol.R = 0 := by rw [hmod, h0]; rfl
      have : Obol.sqB a.toNat = true := by unfold Obol.sqB; rw [hz]; rfl
      unfold rootV
      rw [if_pos this, if_pos hz])
    clear hmod
    go_enter Tryz.func111, Tryz.ntmps111
    go_wp2_with fail
    go_ret2
    exact ⟨congrArg Ending.returned hR.out, 0, rfl⟩
  · obtain ⟨y, hy⟩ : ∃ y : Int, y = a % 288230376287764481 := ⟨_, rfl⟩
    have hH := fun w => RPow (a % 288230376287764481) 144115188143882240 h1 (by omega) (by omega) w
    rw [litH] at hH
    have hpw : Obol.powR (a % 288230376287764481).toNat ((Obol.R - 1) / 2) = a.toNat ^ ((Obol.R - 1) / 2) % Obol.R := by
      rw [Obol.powR_eq, ← hmod, ← Nat.pow_mod]
    rw [hpw] at hH
    have hsq : Obol.sqB a.toNat = (a.toNat ^ ((Obol.R - 1) / 2) % Obol.R == 1) := by
      unfold Obol.sqB
      have : (a.toNat % Obol.R == 0) = false := by rw [beq_eq_false_iff_ne, hmod]; omega
      rw [this, Bool.false_or]
    have hz : a.toNat % Obol.R ≠ 0 := by rw [hmod]; omega
    obtain ⟨pw, hpw2⟩ : ∃ z : Int, z = ((a.toNat ^ ((Obol.R - 1) / 2) % Obol.R : Nat) : Int) := ⟨_, rfl⟩
    rw [← hpw2] at hH
    by_cases hs : a.toNat ^ ((Obol.R - 1) / 2) % Obol.R = 1
    · have hB : Obol.sqB a.toNat = true := by rw [hsq, hs]; rfl
      have hR : Hid (∀ x : Int, RootI' a.toNat x → Value.tuple #[Value.int .u64 x, Value.nilIface] = rootV a.toNat) := Lib.hid (fun x hx => by
        unfold rootV
        rw [if_pos hB, if_neg hz, hx])
      have hp1 : pw = 1 := by rw [hpw2, hs]; rfl
      rw [hp1] at hH
      have I0 : Hid (Obol.RootI (a % 288230376287764481).toNat _ _ _ _) := Lib.hid (Obol.RootI.start (a := a % 288230376287764481) (by rw [← hmod, ← Nat.pow_mod]; exact hs))
      have P1 := fun w => RPow 3 1099511628295 (by omega) (by omega) (by omega) w
      have P2 := fun w => RPow (a % 288230376287764481) 1099511628295 h1 (by omega) (by omega) w
      have P3 := fun w => RPow (a % 288230376287764481) 549755814148 h1 (by omega) (by omega) w
      have l1 : (1099511628295 : Int).toNat = Obol.oddR := by decide +kernel
      have l2 : (549755814148 : Int).toNat = Obol.oddH := by decide +kernel
      rw [l1, lit3] at P1
      rw [l1] at P2
      rw [l2] at P3
      generalize ((Obol.powR 3 Obol.oddR : Nat) : Int) = c at I0 P1
      generalize ((Obol.powR (a % 288230376287764481).toNat Obol.oddR : Nat) : Int) = t at I0 P2
      generalize ((Obol.powR (a % 288230376287764481).toNat Obol.oddH : Nat) : Int) = x at I0 P3
      have hD : Hid (∀ c x w : Int, Obol.RootI (a % 288230376287764481).toNat c 1 x w → 0 ≤ x ∧ x < 288230376287764481 ∧ RootI' a.toNat (min x (288230376287764481 - x))) := Lib.hid (fun c x w h => by
        have hq := h.done (by unfold Obol.sqB; rw [← hmod, Nat.mod_mod, ← Nat.pow_mod, hs]; simp) (by rw [← hmod, Nat.mod_mod]; exact hz)
        refine ⟨h.x0, hq.1, ?_⟩
        unfold RootI'
        have hr : Obol.rootN (a % 288230376287764481).toNat = Obol.rootN a.toNat := by
          have hb : Obol.sqB (a % 288230376287764481).toNat = true := by unfold Obol.sqB; rw [← hmod, Nat.mod_mod, ← Nat.pow_mod, hs]; simp
          exact Obol.rootN_is hB (Obol.rootN_ok hb).1 ((Obol.rootN_ok hb).2.trans (by rw [← hmod, Nat.mod_mod]))
        rw [← hr, ← hq.2]
        have hl := hq.1
        rw [Obol.R_def] at *
        split <;> omega)
      replace hH := Lib.hid hH
      replace P1 := Lib.hid P1
      replace P2 := Lib.hid P2
      replace P3 := Lib.hid P3
      generalize a % 288230376287764481 = m at *
      clear hsq hz hB hs hp1 hpw2 hpw l1 l2 hmod hy
      go_enter Tryz.func111, Tryz.ntmps111
      go_wp2_with (go_at_call 65; refine (hH.out _).mono ?_; rintro e w' ⟨rfl, n, rfl⟩)
      go_loop [4, 5] (fun o c => ∃ O T : Int, o = .int .u64 O ∧ c = .int .i64 T ∧ Hid (OddI O T)) (fun _ c => (18 - intOf c).toNat)
      case atStart => exact ⟨288230376287764480, 0, rfl, rfl, Lib.hid ⟨by omega, by omega, by decide⟩⟩
      case round =>
        obtain ⟨O, T, rfl, rfl, HO⟩ := hrel
        have t0 := HO.out.t0
        have t1 := HO.out.t1
        obtain ⟨o0, o1⟩ := HO.out.pos
        by_cases ht : T < 18
        · have HN := Lib.hid (HO.out.step ht).2
          have hm2 := (HO.out.step ht).1
          go_wp2_with fail
          go_round
          case rel => exact ⟨_, _, rfl, rfl, HN⟩
          case measure => simp [intOf]; omega
        · obtain rfl : T = 18 := by omega
          obtain rfl := HO.out.last
          go_wp2_with (first
            | (go_at_call_of 65 (Value.int IntKind.u64 3); refine (P1.out _).mono ?_; rintro e w' ⟨rfl, n1, rfl⟩)
            | (go_at_call_of 65 (Value.int IntKind.u64 1099511628295); refine (P2.out _).mono ?_; rintro e w' ⟨rfl, n2, rfl⟩)
            | (go_at_call_of 65 (Value.int IntKind.u64 549755814148); refine (P3.out _).mono ?_; rintro e w' ⟨rfl, n3, rfl⟩))
          clear hH P1 P2 P3 HO
          go_loopw [5, 6, 7, 8] (fun q1 q2 q3 q4 wr => ∃ v c t x : Int, q1 = .int .i64 v ∧ q2 = .int .u64 c ∧ q3 = .int .u64 t ∧ q4 = .int .u64 x ∧ Hid (Obol.RootI m.toNat c t x v) ∧ ∃ n, wr = w.drewN n) (fun q1 _ _ _ _ => (intOf q1).toNat)
          case atStart => exact ⟨18, c, t, x, rfl, rfl, rfl, rfl, I0, _, rfl⟩
          case round =>
            clear I0
            obtain ⟨v, c, t, x, rfl, rfl, rfl, rfl, HI, n, rfl⟩ := hrel
            have i1 := HI.out.c0
            have i2 := HI.out.t0
            have i3 := HI.out.x0
            have i4 := HI.out.w0
            have i5 := HI.out.w1
            by_cases ht : t = 1
            · subst ht
              obtain ⟨b1, b2, b3⟩ := hD.out _ _ _ HI.out
              have HF := Lib.hid (hR.out _ b3)
              clear b3
              go_wp2_with fail
              go_ret2
              exact ⟨congrArg Ending.returned HF.out, _, rfl⟩
            · have S0 := Lib.hid HI.out.inner
              have htb : (t != 1) = true := bne_iff_ne.2 ht
              replace ht := Lib.hid ht
              go_wp2_with fail
              go_loopw [9, 10] (fun q1 q2 wr => ∃ i s : Int, q1 = .int .i64 i ∧ q2 = .int .u64 s ∧ Hid (Obol.RootS t.toNat v.toNat i s) ∧ ∃ n, wr = w.drewN n) (fun q1 _ _ => (18 - intOf q1).toNat)
              case atStart => exact ⟨0, t, rfl, rfl, S0, _, rfl⟩
              case round =>
                clear S0
                obtain ⟨i, s, rfl, rfl, HS, n, rfl⟩ := hrel
                have k0 := HS.out.i0
                have k1 : i < v := by have := HS.out.i1; omega
                have k2 := HS.out.s0
                by_cases hs1 : s = 1
                · subst hs1
                  have B0 := Lib.hid (Obol.RootB.start (n := v - i - 1) HI.out (by omega))
                  go_wp2_with fail
                  go_loopw [11, 52] (fun q1 q2 wr => ∃ b j : Int, q1 = .int .u64 b ∧ q2 = .int .i64 j ∧ Hid (Obol.RootB c.toNat (v - i - 1) b j) ∧ ∃ n, wr = w.drewN n) (fun _ q2 _ => (18 - intOf q2).toNat)
                  case atStart => exact ⟨c, 0, rfl, rfl, B0, _, rfl⟩
                  case round =>
                    clear B0
                    obtain ⟨b, j, rfl, rfl, HB, n, rfl⟩ := hrel
                    have l0 := HB.out.j0
                    have l1 := HB.out.j1
                    have l2 := HB.out.b0
                    by_cases hj : j < v - i - 1
                    · have HN := Lib.hid (HB.out.step hj)
                      go_wp2_with (go_at_call 91; refine (RMul _ _ (by omega) (by omega) _).mono ?_; rintro e w' ⟨rfl, n', rfl⟩)
                      go_roundw
                      case rel => exact ⟨_, _, rfl, rfl, HN, _, rfl⟩
                      case measure => simp [intOf]; omega
                    · obtain ⟨hn1, hn2⟩ := HI.out.step HS.out ht.out rfl HB.out hj
                      have HN := Lib.hid hn1
                      clear hn1
                      go_wp2_with (go_at_call 91; refine (RMul _ _ (by omega) (by omega) _).mono ?_; rintro e w' ⟨rfl, n', rfl⟩)
                      go_roundw
                      case rel => exact ⟨_, _, _, _, rfl, rfl, rfl, rfl, HN, _, rfl⟩
                      case measure => simp [intOf]; omega
                · have HN := Lib.hid (HS.out.step HI.out hs1)
                  go_wp2_with (go_at_call 91; refine (RMul _ _ (by omega) (by omega) _).mono ?_; rintro e w' ⟨rfl, n', rfl⟩)
                  go_roundw
                  case rel => exact ⟨_, _, rfl, rfl, HN, _, rfl⟩
                  case measure => simp [intOf]; omega
    · have hB : Obol.sqB a.toNat = false := by rw [hsq, beq_eq_false_iff_ne]; exact hs
      have hR : Hid (Value.tuple #[Value.int .u64 0, errV 2] = rootV a.toNat) := Lib.hid (by
        unfold rootV
        rw [hB]
        rfl)
      have hp1 : pw ≠ 1 := by rw [hpw2]; omega
      replace hH := Lib.hid hH
      clear hmod hsq hz hpw hpw2 hs hB
      generalize a % 288230376287764481 = m at *
      go_enter Tryz.func111, Tryz.ntmps111
      go_wp2_with (go_at_call 65; refine (hH.out _).mono ?_; rintro e w' ⟨rfl, n, rfl⟩)
      go_ret2
      exact ⟨congrArg Ending.returned hR.out, n, rfl⟩

end Go.Proofs.YtkfimfjjmdjbdaaGreatDoor
/- Walks: package edwards: the X of a Y. -/
namespace Go.Proofs.YtkfimfjjmdjbdaaGreatDoor
open Go.RowKit

theorem root_zero {a : Nat} (h : a % Obol.R = 0) : Obol.rootN a = 0 := by
  have hs : Obol.sqB a = true := by unfold Obol.sqB; rw [h]; rfl
  exact (Obol.rootN_is hs (x := 0) (by omega) (by rw [h]; rfl)).symm
theorem rootV_yes {a : Nat} (h : Obol.sqB a = true) : rootV a = .tuple #[.int .u64 (Obol.rootN a : Nat), .nilIface] := by
  unfold rootV
  rw [if_pos h]
  split
  · rename_i h0
    rw [root_zero h0]
    rfl
  · rfl
theorem rootV_no {a : Nat} (h : Obol.sqB a = false) : rootV a = .tuple #[.int .u64 0, errV 2] := by
  unfold rootV
  rw [h]
  rfl

/-- What X times X is, at a Y. -/
noncomputable def sqY (y : Nat) : Nat := Obol.overR (Obol.subR (Obol.mulR y y) 1) (Obol.addR 1 (Obol.mulR 439 (Obol.mulR y y)))

theorem eSide (y : Int) (hy : 0 ≤ y) (w : World) :
    Calls Tryz.prog 94 #[.int .u64 y] w fun e w' => e = .returned (rootV (sqY y.toNat)) ∧ ∃ n, w' = w.drewN n := by
  have hq : sqY y.toNat = Obol.overR (Obol.subR (Obol.mulR y.toNat y.toNat) 1) (Obol.addR 1 (Obol.mulR 439 (Obol.mulR y.toNat y.toNat))) := rfl
  have hR := fun w => mRoot ((Obol.overR (Obol.subR (Obol.mulR y.toNat y.toNat) 1) (Obol.addR 1 (Obol.mulR 439 (Obol.mulR y.toNat y.toNat))) : Nat)) (by omega) w
  rw [Int.toNat_natCast, ← hq] at hR
  cases hs : Obol.sqB (sqY y.toNat)
  · rw [rootV_no hs] at hR ⊢
    replace hR := Lib.hid hR
    clear hs hq
    go_enter Tryz.func94, Tryz.ntmps94
    go_wp2_with (first | (go_at_call 111; refine (hR.out _).mono ?_; rintro e w' ⟨rfl, n, rfl⟩) | (go_at_call 66; refine (eMul _ _ (by omega) (by omega) _).mono ?_; rintro e w' ⟨rfl, n, rfl⟩) | (go_at_call 88; refine (RAdd _ _ (by omega) (by omega) _).mono ?_; rintro e w' ⟨rfl, n, rfl⟩) | (go_at_call 89; refine (RSub _ _ (by omega) (by omega) _).mono ?_; rintro e w' ⟨rfl, n, rfl⟩) | (go_at_call 93; refine (eOver _ _ (by omega) (by omega) _).mono ?_; rintro e w' ⟨rfl, n, rfl⟩))
    go_ret2
    exact ⟨rfl, _, rfl⟩
  · rw [rootV_yes hs] at hR ⊢
    replace hR := Lib.hid hR
    clear hs hq
    go_enter Tryz.func94, Tryz.ntmps94
    go_wp2_with (first | (go_at_call 111; refine (hR.out _).mono ?_; rintro e w' ⟨rfl, n, rfl⟩) | (go_at_call 66; refine (eMul _ _ (by omega) (by omega) _).mono ?_; rintro e w' ⟨rfl, n, rfl⟩) | (go_at_call 88; refine (RAdd _ _ (by omega) (by omega) _).mono ?_; rintro e w' ⟨rfl, n, rfl⟩) | (go_at_call 89; refine (RSub _ _ (by omega) (by omega) _).mono ?_; rintro e w' ⟨rfl, n, rfl⟩) | (go_at_call 93; refine (eOver _ _ (by omega) (by omega) _).mono ?_; rintro e w' ⟨rfl, n, rfl⟩))
    go_ret2
    exact ⟨rfl, _, rfl⟩

end Go.Proofs.YtkfimfjjmdjbdaaGreatDoor
/- Plain law: the points of numbers: a number's lower 63 bits are Y, its highest bit tells X from R - X. No program in sight. -/
namespace Obol

/-- What X times X is, at a Y. -/
noncomputable def sqN (y : Nat) : Nat := overR (subR (mulR y y) 1) (addR 1 (mulR 439 (mulR y y)))
def codeN (p : Nat × Nat) : Nat := p.2 + p.1 % 2 * 9223372036854775808
def okN (x y odd : Nat) : Option (Nat × Nat) := if x % 2 = odd then .some (x, y) else Option.none
noncomputable def readN (n : Nat) : Option (Nat × Nat) :=
  if n % 9223372036854775808 < R ∧ sqB (sqN (n % 9223372036854775808)) = true then
    if rootN (sqN (n % 9223372036854775808)) % 2 = n / 9223372036854775808 then Option.some (rootN (sqN (n % 9223372036854775808)), n % 9223372036854775808)
    else okN (subR 0 (rootN (sqN (n % 9223372036854775808)))) (n % 9223372036854775808) (n / 9223372036854775808)
  else Option.none

theorem down_ne (Y : Fr) : 1 + K.d * (Y * Y) ≠ 0 := by
  intro h
  have h1 : K.i * K.i = -1 := K.i2
  have e : (K.d * Y) * (K.d * Y) = -K.d * (1 * 1) := by grind
  have := K.nonsq e
  exact K.ne this

theorem sqN_val (Y : Fr) : sqN Y.val = ((Y * Y - 1) * K.inv (1 + K.d * (Y * Y))).val := by
  unfold sqN
  rw [mulR_val, ← d_val, mulR_val, ← one_val, subR_val, addR_val, overR_val]

theorem on_side (X Y : Fr) : X * X = (Y * Y - 1) * K.inv (1 + K.d * (Y * Y)) ↔ K.On X Y := by
  have hn := down_ne Y
  have hi := K.inv_mul _ hn
  unfold Ground.On
  constructor
  · intro h
    have : X * X * (1 + K.d * (Y * Y)) = Y * Y - 1 := by
      rw [h]
      generalize K.inv (1 + K.d * (Y * Y)) = v at *
      have : (Y * Y - 1) * v * (1 + K.d * (Y * Y)) = (Y * Y - 1) * ((1 + K.d * (Y * Y)) * v) := by grind
      rw [this, hi]
      grind
    grind
  · intro h
    apply K.cancel hn
    generalize K.inv (1 + K.d * (Y * Y)) = v at *
    have : (1 + K.d * (Y * Y)) * ((Y * Y - 1) * v) = ((1 + K.d * (Y * Y)) * v) * (Y * Y - 1) := by grind
    rw [this, hi]
    grind

theorem is_sq {x y : Nat} (hx : x < R) (hy : y < R) : isN (x, y) = true ↔ x * x % R = sqN y % R := by
  have h := on_side ⟨x, hx⟩ ⟨y, hy⟩
  have h2 := on_iff ⟨x, hx⟩ ⟨y, hy⟩
  rw [← h2, ← h]
  have hv := sqN_val ⟨y, hy⟩
  show _ ↔ x * x % R = sqN (⟨y, hy⟩ : Fr).val % R
  rw [hv, lt_mod (Fin.isLt _)]
  constructor
  · intro e
    have := congrArg Fin.val e
    exact this
  · intro e
    exact Fin.ext e

theorem sub0 {x : Nat} (h : 2 * x ≤ R) : subR 0 x = if x = 0 then 0 else R - x := by
  rw [subR_eq, subQ]
  have hR := R_pos
  have := R_odd
  split
  · rename_i h0
    subst h0
    simp
  · rw [Nat.zero_mod, lt_mod (by omega : x < R), Nat.zero_add, lt_mod (by omega)]

theorem root_nil {a : Nat} (h : a % R = 0) : rootN a = 0 := by
  have hs : sqB a = true := by unfold sqB; rw [h]; rfl
  exact (rootN_is hs (x := 0) (by omega) (by rw [h]; rfl)).symm

theorem sqN_lt (y : Nat) : sqN y < R := by unfold sqN overR; exact mulR_lt _ _

/-- Whether there is a point of a number. -/
noncomputable def hasN (n : Nat) : Bool := decide (n % 9223372036854775808 < R) && (sqB (sqN (n % 9223372036854775808)) && (sqN (n % 9223372036854775808) != 0 || !decide (n ≥ 9223372036854775808)))

theorem neg_sq {x : Nat} (h : x ≤ R) : (R - x) * (R - x) % R = x * x % R := by
  have : (R - x) * (R - x) + 2 * x * R = x * x + R * R := by
    obtain ⟨z, hz⟩ : ∃ z, R = x + z := ⟨R - x, by omega⟩
    rw [hz]
    have : x + z - x = z := by omega
    rw [this]
    grind
  have h1 := congrArg (· % R) this
  simp only [Nat.add_mul_mod_self_right] at h1
  exact h1

theorem read_is (n : Nat) (h64 : n < 18446744073709551616) : (readN n).isSome = hasN n ∧ ∀ p, readN n = some p → isN p = true ∧ p.1 < R ∧ p.2 < R ∧ p.2 = n % 9223372036854775808 ∧ p.1 % 2 = n / 9223372036854775808 := by
  have hoddR := R_odd
  by_cases hy : n % 9223372036854775808 < R
  · cases hs : sqB (sqN (n % 9223372036854775808))
    · have e : readN n = Option.none := by unfold readN; rw [hs]; simp
      have e2 : hasN n = false := by unfold hasN; rw [hs]; simp
      rw [e, e2]
      exact ⟨rfl, fun p h => by cases h⟩
    · obtain ⟨r1, r2⟩ := rootN_ok hs
      obtain ⟨x, hx⟩ : ∃ x, x = rootN (sqN (n % 9223372036854775808)) := ⟨_, rfl⟩
      have hlt := sqN_lt (n % 9223372036854775808)
      have e : readN n = if x % 2 = n / 9223372036854775808 then some (x, n % 9223372036854775808) else okN (subR 0 x) (n % 9223372036854775808) (n / 9223372036854775808) := by
        unfold readN
        rw [if_pos ⟨hy, hs⟩, hx]
      have e2 : hasN n = (sqN (n % 9223372036854775808) != 0 || !decide (n ≥ 9223372036854775808)) := by unfold hasN; rw [hs, decide_eq_true hy]; simp
      rw [← hx] at r1 r2
      have hz : sqN (n % 9223372036854775808) = 0 ↔ x = 0 := by
        constructor
        · intro h
          rw [hx]
          exact root_nil (by rw [h]; rfl)
        · intro h
          rw [h, lt_mod hlt] at r2
          simpa using r2.symm
      have hxR : x < R := by omega
      rw [e, e2, sub0 r1]
      by_cases hx0 : x = 0
      · have hq := hz.2 hx0
        rw [hq, hx0]
        unfold okN
        by_cases ho : n ≥ 9223372036854775808
        · have : n / 9223372036854775808 = 1 := by omega
          simp [this, ho]
        · have : n / 9223372036854775808 = 0 := by omega
          simp [this, ho]
          refine ⟨(is_sq (by omega) (by omega)).2 (by rw [hq]), by omega, hy⟩
      · have hq : sqN (n % 9223372036854775808) ≠ 0 := fun h => hx0 (hz.1 h)
        have hqb : (sqN (n % 9223372036854775808) != 0) = true := bne_iff_ne.2 hq
        rw [hqb, Bool.true_or, if_neg hx0]
        by_cases hp : x % 2 = n / 9223372036854775808
        · rw [if_pos hp]
          refine ⟨rfl, fun p h => ?_⟩
          cases h
          exact ⟨(is_sq hxR hy).2 r2, hxR, hy, rfl, hp⟩
        · rw [if_neg hp]
          unfold okN
          rw [if_pos (by omega)]
          refine ⟨rfl, fun p h => ?_⟩
          cases h
          refine ⟨(is_sq (by omega) hy).2 ?_, by omega, hy, rfl, by omega⟩
          rw [neg_sq (by omega)]
          exact r2
  · have e : readN n = Option.none := by unfold readN; rw [if_neg (fun h => hy h.1)]
    have e2 : hasN n = false := by unfold hasN; rw [decide_eq_false hy]; rfl
    rw [e, e2]
    exact ⟨rfl, fun p h => by cases h⟩

theorem read_code {p : Nat × Nat} (h : isN p = true) : readN (codeN p) = some p := by
  obtain ⟨x, y⟩ := p
  have h' := h
  unfold isN at h'
  simp only [Bool.and_eq_true, decide_eq_true_eq] at h'
  have hx : x < R := h'.1.1
  have hy : y < R := h'.1.2
  have hRR : R < 9223372036854775808 := by decide +kernel
  have hoddR := R_odd
  have e1 : codeN (x, y) % 9223372036854775808 = y := by unfold codeN; simp only; omega
  have e2 : codeN (x, y) / 9223372036854775808 = x % 2 := by unfold codeN; simp only; omega
  have hq := (is_sq hx hy).1 h
  have hs : sqB (sqN y) = true := (sqB_iff _).2 ⟨x, hx, hq⟩
  obtain ⟨r1, r2⟩ := rootN_ok hs
  have hr := two_roots (x := rootN (sqN y)) (y := x) (by omega) hx (by rw [r2, hq])
  unfold readN
  rw [e1, e2, if_pos ⟨hy, hs⟩]
  rcases hr with hr | hr
  · rw [hr, if_pos rfl]
  · rw [sub0 r1]
    by_cases h0 : rootN (sqN y) = 0
    · omega
    · rw [if_neg (by omega), if_neg h0]
      unfold okN
      have : R - rootN (sqN y) = x := by omega
      rw [this, if_pos rfl]

/-! the bytes -/
def be8 (n : Nat) : List Nat := [n / 72057594037927936 % 256, n / 281474976710656 % 256, n / 1099511627776 % 256, n / 4294967296 % 256, n / 16777216 % 256, n / 65536 % 256, n / 256 % 256, n % 256]
def num8 : List Nat → Nat := fun l => l.foldl (fun n c => 256 * n + c) 0
theorem num_be (n : Nat) (h : n < 18446744073709551616) : num8 (be8 n) = n := by
  simp only [num8, be8, List.foldl]
  omega
theorem be_num {a b c d e f g h : Nat} (ha : a < 256) (hb : b < 256) (hc : c < 256) (hd : d < 256) (he : e < 256) (hf : f < 256) (hg : g < 256) (hh : h < 256) : be8 (num8 [a, b, c, d, e, f, g, h]) = [a, b, c, d, e, f, g, h] := by
  simp only [num8, be8, List.foldl]
  simp only [List.cons.injEq, and_true]
  omega
theorem num_lt : ∀ (l : List Nat) (n : Nat) (_ : ∀ x ∈ l, x < 256), l.foldl (fun n c => 256 * n + c) n < (n + 1) * 256 ^ l.length
  | [], n, _ => by simp
  | c :: l, n, h => by
    have h1 := num_lt l (256 * n + c) (fun x hx => h x (List.mem_cons_of_mem _ hx))
    have h2 := h c (List.mem_cons_self ..)
    rw [List.foldl_cons, List.length_cons, Nat.pow_succ]
    refine Nat.lt_of_lt_of_le h1 ?_
    rw [Nat.mul_comm (256 ^ l.length) 256, ← Nat.mul_assoc]
    exact Nat.mul_le_mul_right _ (by omega)
theorem num8_lt {l : List Nat} (h : ∀ x ∈ l, x < 256) (hl : l.length = 8) : num8 l < 18446744073709551616 := by
  have := num_lt l 0 h
  rw [hl] at this
  simpa [num8] using this
theorem be_num8 {l : List Nat} (h : ∀ x ∈ l, x < 256) (hl : l.length = 8) : be8 (num8 l) = l := by
  match l, hl with
  | [a, b, c, d, e, f, g, i], _ =>
    simp only [List.mem_cons, List.not_mem_nil, or_false, forall_eq_or_imp, forall_eq] at h
    exact be_num h.1 h.2.1 h.2.2.1 h.2.2.2.1 h.2.2.2.2.1 h.2.2.2.2.2.1 h.2.2.2.2.2.2.1 h.2.2.2.2.2.2.2
theorem be_lt (n : Nat) : ∀ x ∈ be8 n, x < 256 := by
  intro x hx
  simp only [be8, List.mem_cons, List.not_mem_nil, or_false] at hx
  omega

end Obol
/- Walks: package edwards: bytes to points. -/
namespace Go.Proofs.YtkfimfjjmdjbdaaGreatDoor
open Go.RowKit

/-- What Read tells of a number. -/
noncomputable def readV (n : Nat) : Value := match Obol.readN n with
  | .some p => .tuple #[edV (p.1 : Nat) (p.2 : Nat), .nilIface]
  | .none => .tuple #[edV 0 0, errV 3]

def ReadI (L : List Nat) (N i : Int) : Prop := 0 ≤ N ∧ 0 ≤ i ∧ i ≤ 8 ∧ N < 256 ^ i.toNat ∧ N = (((L.take i.toNat).foldl (fun n c => 256 * n + c) 0 : Nat) : Int)
theorem ReadI.bound {L : List Nat} {N i : Int} (h : ReadI L N i) (hi : i < 8) : 0 ≤ N ∧ N < 72057594037927936 := by
  refine ⟨h.1, Int.lt_of_lt_of_le h.2.2.2.1 ?_⟩
  have : (256 : Nat) ^ i.toNat ≤ 256 ^ 7 := Nat.pow_le_pow_right (by decide) (by have := h.2.1; omega)
  have e : ((256 ^ i.toNat : Nat) : Int) = 256 ^ i.toNat := by rw [Int.natCast_pow]; rfl
  omega
theorem ReadI.step {L : List Nat} {N i v : Int} (H : B8 8 L) (h : ReadI L N i) (hi : i < 8) (hv : v = ((L.getD i.toNat 0 : Nat) : Int)) (_ : 0 ≤ v) (v1 : v ≤ 255) : ReadI L (256 * N + v) (i + 1) := by
  obtain ⟨h0, h1, h2, h3, h4⟩ := h
  have e : (i + 1).toNat = i.toNat + 1 := by omega
  have hl : i.toNat < L.length := by rw [H.len]; omega
  refine ⟨by omega, by omega, by omega, ?_, ?_⟩
  · rw [e, Int.pow_succ]; omega
  · rw [e, List.take_add_one, List.getElem?_eq_getElem hl, List.foldl_append, h4, hv, List.getD_eq_getElem?_getD, List.getElem?_eq_getElem hl]
    simp only [Option.toList, List.foldl, Option.getD_some]
    omega
theorem ReadI.done {L : List Nat} {N : Int} (H : B8 8 L) (h : ReadI L N 8) : N = ((Obol.num8 L : Nat) : Int) := by
  have := h.2.2.2.2
  rw [show (8 : Int).toNat = 8 from rfl, List.take_of_length_le (by rw [H.len]; decide)] at this
  exact this

set_option maxHeartbeats 1000000 in
theorem eRead8 (b o cap : Nat) (L : List Nat) (H0 : B8 8 L) (w : World) (hc0 : BL w b o L) :
    Calls Tryz.prog 72 #[.slice (some ⟨b, o, none⟩) 8 cap] w fun e w' => e = .returned (readV (Obol.num8 L)) ∧ Below w.heap.size w w' := by
  have H := Lib.hid H0
  have hb := hc0.lt (by rw [H0.len]; decide)
  have C := Lib.hid hc0
  clear hc0 H0
  go_enter Tryz.func72, Tryz.ntmps72
  go_wp2_with fail
  go_loopw [4, 18] (fun q1 q2 wr => ∃ N i : Int, q1 = .int .u64 N ∧ q2 = .int .i64 i ∧ Hid (ReadI L N i) ∧ ∃ n, wr = (w.alloc (.cells #[.int .u64 0, .int .u64 0] 24)).drewN n) (fun _ q2 _ => (8 - intOf q2).toNat)
  case atStart => exact ⟨0, 0, rfl, rfl, Lib.hid ⟨by omega, by omega, by omega, by decide, rfl⟩, 0, rfl⟩
  case round =>
    obtain ⟨N, i, rfl, rfl, HI, n, rfl⟩ := hrel
    have i0 := HI.out.2.1
    have i1 := HI.out.2.2.1
    by_cases hi : i < 8
    · obtain ⟨n0, n1⟩ := HI.out.bound hi
      have C1 : BL ((w.alloc (.cells #[.int .u64 0, .int .u64 0] 24)).drewN n) b o L := C.out.below (B := w.heap.size) (bDrewN (bAlloc (Below.refl _ _) _) n) hb
      obtain ⟨v, hv, he, v0, v1⟩ := C1.at H.out i0 hi
      have hor := or_byte n0 n1 v0 v1
      have HN := Lib.hid (HI.out.step H.out hi he v0 v1)
      clear he C1
      go_wp2_with fail
      go_roundw
      case rel => exact ⟨_, _, rfl, rfl, HN, _, rfl⟩
      case measure => simp [intOf]; omega
    · obtain rfl : i = 8 := by omega
      have hN := HI.out.done H.out
      have n0 : 0 ≤ N := by omega
      have n1 : N ≤ 18446744073709551615 := by have := Obol.num8_lt H.out.all H.out.len; omega
      have hand := and_63 n0 n1
      obtain ⟨y, hy⟩ : ∃ y : Int, N % 9223372036854775808 = y := ⟨_, rfl⟩
      obtain ⟨od, ho⟩ : ∃ od : Int, N / 9223372036854775808 = od := ⟨_, rfl⟩
      have ey : Obol.num8 L % 9223372036854775808 = y.toNat := by omega
      have eo : Obol.num8 L / 9223372036854775808 = od.toNat := by omega
      rw [hy] at hand
      have y0 : 0 ≤ y := by omega
      have o0 : 0 ≤ od := by omega
      have o1 : od ≤ 1 := by omega
      have Y : Hid (Obol.num8 L % 9223372036854775808 = y.toNat ∧ Obol.num8 L / 9223372036854775808 = od.toNat) := Lib.hid ⟨ey, eo⟩
      clear ey eo hN HI C H n1 hi i0 i1 hy
      by_cases hr : y < 288230376287764481
      · have hrR : y.toNat < Obol.R := by rw [Obol.R_def]; omega
        have hS := fun w => eSide y y0 w
        cases hs : Obol.sqB (sqY y.toNat)
        · have HF : Hid (readV (Obol.num8 L) = .tuple #[edV 0 0, errV 3]) := Lib.hid (by
            have : Obol.readN (Obol.num8 L) = Option.none := by unfold Obol.readN; rw [Y.out.1, if_neg (fun h => by have h2 := h.2; rw [show Obol.sqN y.toNat = sqY y.toNat from rfl, hs] at h2; cases h2)]
            unfold readV
            rw [this])
          rw [rootV_no hs] at hS
          replace hS := Lib.hid hS
          clear hs hrR Y
          go_wp2_with (go_at_call 94; refine (hS.out _).mono ?_; rintro e w' ⟨rfl, n', rfl⟩)
          refine bodyPost_ret (v := .tuple #[edV 0 0, errV 3]) (by simp [results, Tryz.results72, go_sem]) rfl ⟨congrArg Ending.returned HF.out.symm, ?_⟩
          repeat (first | exact Below.refl _ _ | assumption | apply bDrewN | apply bDrew | apply bAlloc | refine bSet ?_ (by omega) | refine bThen ?_ (by assumption) (by simp <;> omega))
        · have hok := Obol.rootN_ok hs
          obtain ⟨x, hx⟩ : ∃ x : Int, ((Obol.rootN (sqY y.toNat) : Nat) : Int) = x := ⟨_, rfl⟩
          have x0 : 0 ≤ x := by omega
          have x1 : x ≤ 18446744073709551615 := by have := hok.1; rw [Obol.R_def] at this; omega
          have ha := and_1 x0 x1
          have xe : Obol.rootN (sqY y.toNat) = x.toNat := by omega
          rw [rootV_yes hs, hx] at hS
          have er : Obol.readN (Obol.num8 L) = if x.toNat % 2 = od.toNat then .some (x.toNat, y.toNat) else Obol.okN (Obol.subR 0 x.toNat) y.toNat od.toNat := by
            unfold Obol.readN
            rw [Y.out.1, Y.out.2, show Obol.sqN y.toNat = sqY y.toNat from rfl, if_pos ⟨hrR, hs⟩, xe]
          have hm := fun w => RSub 0 x (by omega) x0 w
          rw [show (0 : Int).toNat = 0 from rfl] at hm
          replace hS := Lib.hid hS
          by_cases hp : x % 2 = od
          · have HF : Hid (readV (Obol.num8 L) = .tuple #[edV x y, .nilIface]) := Lib.hid (by
              unfold readV
              rw [er, if_pos (by omega)]
              show Value.tuple #[edV ((x.toNat : Nat) : Int) ((y.toNat : Nat) : Int), Value.nilIface] = _
              rw [Int.toNat_of_nonneg x0, Int.toNat_of_nonneg y0])
            rw [hp] at ha
            clear hs hrR Y hok hx xe er hm x1 hp
            go_wp2_with (go_at_call 94; refine (hS.out _).mono ?_; rintro e w' ⟨rfl, n', rfl⟩)
            refine bodyPost_ret (v := .tuple #[edV x y, .nilIface]) (by simp [results, Tryz.results72, go_sem]) rfl ⟨congrArg Ending.returned HF.out.symm, ?_⟩
            repeat (first | exact Below.refl _ _ | assumption | apply bDrewN | apply bDrew | apply bAlloc | refine bSet ?_ (by omega) | refine bThen ?_ (by assumption) (by simp <;> omega))
          · obtain ⟨z, hz⟩ : ∃ z : Int, ((Obol.subR 0 x.toNat : Nat) : Int) = z := ⟨_, rfl⟩
            have ez : Obol.subR 0 x.toNat = z.toNat := by omega
            have z0 : 0 ≤ z := by omega
            have zlt : z ≤ 18446744073709551615 := by
              have : Obol.subR 0 x.toNat < Obol.R := by rw [Obol.subR_eq]; exact Nat.mod_lt _ Obol.R_pos
              rw [Obol.R_def] at this
              omega
            have hb1 := and_1 z0 zlt
            rw [hz] at hm
            replace hm := Lib.hid hm
            have hne : (x % 2 != od) = true := bne_iff_ne.2 hp
            have er2 : Obol.readN (Obol.num8 L) = Obol.okN z.toNat y.toNat od.toNat := by rw [er, if_neg (by omega), ez]
            by_cases hp2 : z % 2 = od
            · have HF : Hid (readV (Obol.num8 L) = .tuple #[edV z y, .nilIface]) := Lib.hid (by
                unfold readV
                rw [er2, Obol.okN, if_pos (by omega)]
                show Value.tuple #[edV ((z.toNat : Nat) : Int) ((y.toNat : Nat) : Int), Value.nilIface] = _
                rw [Int.toNat_of_nonneg z0, Int.toNat_of_nonneg y0])
              rw [hp2] at hb1
              clear hs hrR Y hok hx xe er er2 x1 hz ez zlt hp2
              replace hp := Lib.hid hp
              go_wp2_with (first | (go_at_call 94; refine (hS.out _).mono ?_; rintro e w' ⟨rfl, n', rfl⟩) | (go_at_call 89; refine (hm.out _).mono ?_; rintro e w' ⟨rfl, n2, rfl⟩))
              refine bodyPost_ret (v := .tuple #[edV z y, .nilIface]) (by simp [results, Tryz.results72, go_sem]) rfl ⟨congrArg Ending.returned HF.out.symm, ?_⟩
              repeat (first | exact Below.refl _ _ | assumption | apply bDrewN | apply bDrew | apply bAlloc | refine bSet ?_ (by omega) | refine bThen ?_ (by assumption) (by simp <;> omega))
            · have HF : Hid (readV (Obol.num8 L) = .tuple #[edV 0 0, errV 3]) := Lib.hid (by
                unfold readV
                rw [er2, Obol.okN, if_neg (by omega)])
              have hne2 : (z % 2 != od) = true := bne_iff_ne.2 hp2
              clear hs hrR Y hok hx xe er er2 x1 hz ez zlt
              replace hp := Lib.hid hp
              replace hp2 := Lib.hid hp2
              go_wp2_with (first | (go_at_call 94; refine (hS.out _).mono ?_; rintro e w' ⟨rfl, n', rfl⟩) | (go_at_call 89; refine (hm.out _).mono ?_; rintro e w' ⟨rfl, n2, rfl⟩))
              refine bodyPost_ret (v := .tuple #[edV 0 0, errV 3]) (by simp [results, Tryz.results72, go_sem]) rfl ⟨congrArg Ending.returned HF.out.symm, ?_⟩
              repeat (first | exact Below.refl _ _ | assumption | apply bDrewN | apply bDrew | apply bAlloc | refine bSet ?_ (by omega) | refine bThen ?_ (by assumption) (by simp <;> omega))
      · have HF : Hid (readV (Obol.num8 L) = .tuple #[edV 0 0, errV 3]) := Lib.hid (by
          have : Obol.readN (Obol.num8 L) = Option.none := by unfold Obol.readN; rw [Y.out.1, if_neg (fun h => by have h2 := h.1; rw [Obol.R_def] at h2; omega)]
          unfold readV
          rw [this])
        clear Y
        go_wp2_with fail
        refine bodyPost_ret (v := .tuple #[edV 0 0, errV 3]) (by simp [results, Tryz.results72, go_sem]) rfl ⟨congrArg Ending.returned HF.out.symm, ?_⟩
        repeat (first | exact Below.refl _ _ | assumption | apply bDrewN | apply bDrew | apply bAlloc | refine bSet ?_ (by omega) | refine bThen ?_ (by assumption) (by simp <;> omega))

/-- Not eight bytes. -/
theorem eReadNo (ao : Option Addr) (len cap : Nat) (h : len ≠ 8) (_ : len ≤ 9223372036854775807) (w : World) :
    Calls Tryz.prog 72 #[.slice ao len cap] w fun e w' => e = .returned (.tuple #[edV 0 0, errV 3]) ∧ Below w.heap.size w w' := by
  have hn : ((len : Int) != 8) = true := bne_iff_ne.2 (by omega)
  replace h := Lib.hid h
  go_enter Tryz.func72, Tryz.ntmps72
  go_wp2_with fail
  refine bodyPost_ret (v := .tuple #[edV 0 0, errV 3]) (by simp [results, Tryz.results72, go_sem]) rfl ⟨rfl, ?_⟩
  repeat (first | exact Below.refl _ _ | assumption | apply bDrewN | apply bDrew | apply bAlloc | refine bSet ?_ (by omega) | refine bThen ?_ (by assumption) (by simp <;> omega))

end Go.Proofs.YtkfimfjjmdjbdaaGreatDoor
/- Bytes as cells; slices of the call's own that hold bytes. -/
namespace Go.Proofs.YtkfimfjjmdjbdaaGreatDoor
open Go.RowKit

theorem info8 : (Tryz.prog.info? 5).map (fun i => (i.zero, i.size, i.bytes)) = some (some (.int .u8 0), 1, 1) := by kernel_rfl
/-- Bytes as cells. -/
def u8s (L : List Nat) : Array Value := (L.map fun (n : Nat) => Value.int .u8 (n : Int)).toArray
theorem u8s_size (L : List Nat) : (u8s L).size = L.length := by unfold u8s; simp
theorem u8s_get (L : List Nat) (i : Nat) (hi : i < L.length) : (u8s L)[i]? = some (.int .u8 ((L.getD i 0 : Nat) : Int)) := by
  unfold u8s
  rw [List.getElem?_toArray, List.getElem?_map, List.getElem?_eq_getElem hi, List.getD_eq_getElem?_getD, List.getElem?_eq_getElem hi]
  rfl
theorem Row.bl {w : World} {b : Nat} {L : List Nat} {t : TypeId} (h : Row w b (u8s L) t) : BL w b 0 L := fun i hi => by rw [Nat.zero_add]; exact h.cell i (u8s_get L i hi)
theorem rowSet8 {w : World} {k : Nat} {L : List Nat} {t : TypeId} (h : Row w k (u8s L) t) (i Z : Nat) {z : Int} (hz : z = (Z : Int)) : Row (w.setCell ⟨k, i, none⟩ (.int .u8 z)) k (u8s (L.set i Z)) t := by
  have e : (u8s L).setIfInBounds i (.int .u8 z) = u8s (L.set i Z) := by
    unfold u8s
    rw [List.setIfInBounds_toArray, List.map_set, hz]
  rw [← e]
  exact h.set i _

abbrev U8 (L : List Nat) : List Value := L.map fun (n : Nat) => Value.int .u8 (n : Int)
/-- A slice of the call's own: these bytes. -/
def OwnB (w : World) (base : Nat) (v : Value) (L : List Nat) : Prop := w.ownsRow base 5 1 v L.length (U8 L)
theorem OwnB.nil (w : World) (base : Nat) : OwnB w base (.slice none 0 0) [] := World.ownsRow_nil _ _ _ _
theorem OwnB.size {w : World} {base : Nat} {v : Value} {L : List Nat} (h : OwnB w base v L) (h0 : 0 < L.length) : ∃ g cap cur, v = .slice (some ⟨g, 0, none⟩) L.length cap ∧ base ≤ g ∧ Row w g cur 5 ∧ L.length ≤ cap ∧ cap ≤ maxLen ∧ cur.size = cap ∧ cur.toList.take L.length = U8 L := by
  rcases h.2 with ⟨rfl, h⟩ | ⟨g, cap, cur, h1, h2, h3, h4, h5, h6, h7⟩
  · omega
  · exact ⟨g, cap, cur, h1, h2, h3, h4, h5, by simpa using h6, by simpa using h7⟩
theorem OwnB.bl {w : World} {base : Nat} {L : List Nat} {g cap : Nat} (h : OwnB w base (.slice (some ⟨g, 0, none⟩) L.length cap) L) : BL w g 0 L := fun i hi => by
  rw [Nat.zero_add, World.ownsRow.cellAt h i (by omega)]
  simp only [List.getElem?_map, List.getElem?_eq_getElem hi, List.getD_eq_getElem?_getD]
  rfl
theorem OwnB.below {w w' : World} {base : Nat} {v : Value} {L : List Nat} (h : OwnB w base v L) (hb : Below w.heap.size w w') : OwnB w' base v L := by
  refine ⟨h.1, ?_⟩
  rcases h.2 with h | ⟨g, cap, cur, h1, h2, h3, h4⟩
  · exact .inl h
  · exact .inr ⟨g, cap, cur, h1, h2, (hb.block g (Array.getElem?_eq_some_iff.1 h3).1).trans h3, h4⟩

end Go.Proofs.YtkfimfjjmdjbdaaGreatDoor
/- Walks: the references of layers 1, 2, 7: squares, numbers of bytes, bytes of numbers. -/
namespace Go.Proofs.YtkfimfjjmdjbdaaGreatDoor
open Go.RowKit

/-- The bytes that are laid from the last on. -/
def B2I (n : Nat) (N i : Int) (L : List Nat) : Prop := 0 ≤ N ∧ N ≤ 18446744073709551615 ∧ -1 ≤ i ∧ i ≤ 7 ∧ N.toNat = n / 256 ^ (7 - i).toNat ∧ L.length = 8 ∧ ∀ j : Nat, i < (j : Int) → j < 8 → L.getD j 0 = (Obol.be8 n).getD j 0
theorem be8_get (n j : Nat) (h : j < 8) : (Obol.be8 n).getD j 0 = n / 256 ^ (7 - j) % 256 := by
  match j, h with
  | 0, _ => rfl
  | 1, _ => rfl
  | 2, _ => rfl
  | 3, _ => rfl
  | 4, _ => rfl
  | 5, _ => rfl
  | 6, _ => rfl
  | 7, _ => simp [Obol.be8]
theorem B2I.step {n : Nat} {N i : Int} {L : List Nat} (h : B2I n N i L) (hi : 0 ≤ i) : B2I n (N / 256) (i - 1) (L.set i.toNat (N % 256).toNat) := by
  obtain ⟨h0, h1, h2, h3, h4, h5, h6⟩ := h
  have e : (7 - (i - 1)).toNat = (7 - i).toNat + 1 := by omega
  refine ⟨by omega, by omega, by omega, by omega, ?_, by rw [List.length_set]; exact h5, fun j hj hj8 => ?_⟩
  · rw [e, Nat.pow_succ, ← Nat.div_div_eq_div_mul, ← h4]
    omega
  · rw [List.getD_eq_getElem?_getD, List.getElem?_set]
    by_cases hji : i.toNat = j
    · rw [if_pos hji, if_pos (by omega)]
      rw [be8_get n j hj8, show 7 - j = (7 - i).toNat by omega, ← h4]
      simp only [Option.getD_some]
      omega
    · rw [if_neg hji, ← List.getD_eq_getElem?_getD]
      exact h6 j (by omega) hj8
theorem B2I.done {n : Nat} {N : Int} {L : List Nat} (h : B2I n N (-1) L) : L = Obol.be8 n := by
  obtain ⟨h0, h1, h2, h3, h4, h5, h6⟩ := h
  have hl : (Obol.be8 n).length = 8 := rfl
  refine List.ext_getElem (by omega) fun j h1 h2 => ?_
  have := h6 j (by omega) (by omega)
  rw [List.getD_eq_getElem?_getD, List.getD_eq_getElem?_getD, List.getElem?_eq_getElem h1, List.getElem?_eq_getElem h2] at this
  exact this

abbrev zeros8 : List Nat := [0, 0, 0, 0, 0, 0, 0, 0]
theorem r2Bytes (n : Int) (hn0 : 0 ≤ n) (hn1 : n ≤ 18446744073709551615) (w : World) :
    Calls Tryz.prog 37 #[.int .u64 n] w fun e w' => e = .returned (.slice (some ⟨w.heap.size, 0, none⟩) 8 8) ∧ Row w' w.heap.size (u8s (Obol.be8 n.toNat)) 5 ∧ Below w.heap.size w w' := by
  obtain ⟨ti, hti, htz, hts, htb⟩ := info_parts info8
  have hmk : ∀ W : World, (Instr.makeSlice 26 (.int .i64 8) (.int .i64 8)).run Tryz.prog W = .ok (.slice (some ⟨W.heap.size, 0, none⟩) 8 8) (W.alloc (.cells (u8s zeros8) 5)) := fun W => by
    have h := run_make (P := Tryz.prog) W 26 5 ti (.int .u8 0) Tryz.underlying26 hti htz .i64 .i64 8 8 (by omega) (by omega) (by rw [htb]; omega) (by omega)
    rw [hts] at h
    rw [h]
    have e : madeCells (Value.int .u8 0).cells 8 = u8s zeros8 := Array.toList_inj.1 ((toList_madeCells_one (.int .u8 0) 8).trans rfl)
    rw [← e]
    rfl
  go_enter Tryz.func37, Tryz.ntmps37
  go_wp2_with fail
  go_loopw [0, 4] (fun q1 q2 wr => ∃ (N i : Int) (L : List Nat), q1 = .int .u64 N ∧ q2 = .int .i64 i ∧ Hid (B2I n.toNat N i L) ∧ Row wr w.heap.size (u8s L) 5 ∧ Below w.heap.size w wr) (fun _ q2 _ => (1 + intOf q2).toNat)
  case atStart => exact ⟨n, 7, zeros8, rfl, rfl, Lib.hid ⟨hn0, hn1, by omega, by omega, by simp, rfl, fun j h1 h2 => by omega⟩, Row.new _ _ _, bAlloc (Below.refl _ _) _⟩
  case round =>
    obtain ⟨N, i, L, rfl, rfl, HI, R, B⟩ := hrel
    obtain ⟨n0, n1, i0, i1, -, hL, -⟩ := HI.out
    by_cases hi : 0 ≤ i
    · have HN := Lib.hid (HI.out.step hi)
      have hc := R.cell i.toNat (u8s_get L i.toNat (by omega))
      have hf := R.free i.toNat
      have RN := rowSet8 R i.toNat (N % 256).toNat (z := N % 256) (by omega)
      replace hL := Lib.hid hL
      replace R := Lib.hid R
      replace B := Lib.hid (bSet (o := i.toNat) (u := .int .u8 (N % 256)) B (Nat.le_refl _))
      replace RN := Lib.hid RN
      have ht1 : N.tmod 256 = N % 256 := Int.tmod_eq_emod_of_nonneg n0
      have ht2 : N.tdiv 256 = N / 256 := Int.tdiv_eq_ediv_of_nonneg n0
      go_wp2_with fail
      exact ⟨⟨_, _, _, rfl, rfl, HN, RN.out, B.out⟩, by simp [intOf]; omega⟩
    · obtain rfl : i = -1 := by omega
      have hd := HI.out.done
      rw [hd] at R
      replace R := Lib.hid R
      replace B := Lib.hid B
      clear hd HI
      go_wp2_with fail
      go_ret
      exact ⟨rfl, R.out, B.out⟩

/-- The number of a point. -/
theorem r7Bytes (X Y : Int) (hX : 0 ≤ X) (hX1 : X ≤ 18446744073709551615) (hY : 0 ≤ Y) (hY1 : Y < 9223372036854775808) (w : World) :
    Calls Tryz.prog 61 #[edV X Y] w fun e w' => ∃ g, e = .returned (.slice (some ⟨g, 0, none⟩) 8 8) ∧ w.heap.size ≤ g ∧ Row w' g (u8s (Obol.be8 (Obol.codeN (X.toNat, Y.toNat)))) 5 ∧ Below w.heap.size w w' := by
  have e1 : X.tmod 2 = X % 2 := Int.tmod_eq_emod_of_nonneg hX
  have hB := fun (n : Int) (h0 : 0 ≤ n) (h1 : n ≤ 18446744073709551615) w => r2Bytes n h0 h1 w
  rcases (by omega : X % 2 = 0 ∨ X % 2 = 1) with hp | hp
  · have hc : Hid (Obol.codeN (X.toNat, Y.toNat) = Y.toNat) := Lib.hid (by unfold Obol.codeN; simp only; omega)
    rw [hp] at e1
    go_enter Tryz.func61, Tryz.ntmps61
    go_wp2_with fail
    refine (hB Y hY (by omega) _).mono ?_
    rintro e w' ⟨rfl, R, B⟩
    rw [World.size_alloc] at R
    replace R := Lib.hid R
    replace B := Lib.hid B
    go_wp2_with fail
    go_ret
    refine ⟨_, rfl, by simp, by rw [hc.out]; exact R.out, bThen (bAlloc (Below.refl _ _) _) B.out (by simp)⟩
  · have hc : Hid (Obol.codeN (X.toNat, Y.toNat) = (Y + 9223372036854775808).toNat) := Lib.hid (by unfold Obol.codeN; simp only; omega)
    rw [hp] at e1
    go_enter Tryz.func61, Tryz.ntmps61
    go_wp2_with fail
    refine (hB (Y + 9223372036854775808) (by omega) (by omega) _).mono ?_
    rintro e w' ⟨rfl, R, B⟩
    rw [World.size_alloc] at R
    replace R := Lib.hid R
    replace B := Lib.hid B
    go_wp2_with fail
    go_ret
    refine ⟨_, rfl, by simp, by rw [hc.out]; exact R.out, bThen (bAlloc (Below.refl _ _) _) B.out (by simp)⟩

end Go.Proofs.YtkfimfjjmdjbdaaGreatDoor
/- Walks: package edwards: a number's bytes. -/
namespace Go.Proofs.YtkfimfjjmdjbdaaGreatDoor
open Go.RowKit

theorem take_be (n j : Nat) (h : j < 8) : (Obol.be8 n).take (j + 1) = (Obol.be8 n).take j ++ [n / 2 ^ (56 - 8 * j) % 256] := by
  match j, h with
  | 0, _ => rfl
  | 1, _ => rfl
  | 2, _ => rfl
  | 3, _ => rfl
  | 4, _ => rfl
  | 5, _ => rfl
  | 6, _ => rfl
  | 7, _ => simp [Obol.be8]

set_option maxRecDepth 8000 in
set_option maxHeartbeats 1000000 in
theorem ePut (base : Nat) (v : Value) (L : List Nat) (k : Int) (hk0 : 0 ≤ k) (hk1 : k ≤ 18446744073709551615) (hL : L.length ≤ 1000) (w : World) (hB : base ≤ w.heap.size) (hown : OwnB w base v L) :
    Calls Tryz.prog 92 #[v, .int .u64 k] w fun e w' => ∃ v', e = .returned v' ∧ OwnB w' base v' (L ++ Obol.be8 k.toNat) ∧ Below base w w' := by
  obtain ⟨ti, hti, htz, hts, htb⟩ := info_parts info8
  go_enter Tryz.func92, Tryz.ntmps92
  go_wp2_with fail
  go_loopw [0, 5] (fun q1 q2 wr => ∃ j : Nat, j ≤ 8 ∧ q2 = .int .i64 (56 - 8 * (j : Int)) ∧ OwnB wr base q1 (L ++ (Obol.be8 k.toNat).take j) ∧ Below base w wr) (fun _ q2 _ => (8 + intOf q2).toNat)
  case atStart => exact ⟨0, by omega, rfl, by simpa using hown, Below.refl _ _⟩
  case round =>
    obtain ⟨j, hj, rfl, hO, hW⟩ := hrel
    have hsz := hW.size
    by_cases hj8 : j < 8
    · have hlen : (L ++ (Obol.be8 k.toNat).take j).length = L.length + j := by simp [Obol.be8]; omega
      go_wp2_with (first
        | (at_builtin; refine wpList_append_own _ rfl _ _ 26 rfl base 5 ti (.int .u8 0) 1 1 Tryz.underlying26 hti htz hts htb rfl (by decide) _ _ _ rfl (hO.alloc _) ⟨wr.heap.size, 0, none⟩ 1 1 [.int .u8 (k / 2 ^ (56 - 8 * j) % 256)] ?c0 rfl ?c1 ?c2 ?c3 ?c4 ?c5 ?_)
        | go_in)
      case c0 => rfl
      case c1 =>
        intro q u hq
        match q, hq with
        | 0, hq => simp at hq; subst hq; simp [Addr.add]
      case c2 => intro u hu; simp at hu; subst hu; rfl
      case c3 => rw [hlen]; unfold maxLen; omega
      case c4 => rw [hlen]; omega
      case c5 => simp; omega
      · intro v' w1 hown' hgrow _
        have hrow := hO.lt
        have HO : OwnB w1 base v' (L ++ (Obol.be8 k.toNat).take (j + 1)) := by
          have e : L ++ (Obol.be8 k.toNat).take (j + 1) = (L ++ (Obol.be8 k.toNat).take j) ++ [k.toNat / 2 ^ (56 - 8 * j) % 256] := by rw [take_be _ _ hj8, List.append_assoc]
          have e2 : Value.int .u8 (k / 2 ^ (56 - 8 * j) % 256) = Value.int .u8 ((k.toNat / 2 ^ (56 - 8 * j) % 256 : Nat) : Int) := by
            obtain ⟨K, rfl⟩ := Int.eq_ofNat_of_zero_le hk0
            simp
          have e5 : ((L ++ (Obol.be8 k.toNat).take j) ++ [k.toNat / 2 ^ (56 - 8 * j) % 256]).length = L.length + j + 1 := by rw [List.length_append, hlen]; rfl
          unfold OwnB
          rw [e, e5]
          rw [e2] at hown'
          simpa [U8] using hown'
        have HW : Below base w w1 := (hW.alloc (by omega) _).grown hgrow (by simp; omega) (fun q hq => (hrow q hq).1)
        replace HO := Lib.hid HO
        replace HW := Lib.hid HW
        clear hown' hgrow hO hW hrow hlen
        go_wp2
        go_roundw
        case rel => exact ⟨j + 1, by omega, by simp; omega, HO.out, HW.out⟩
        case measure => simp [intOf]; omega
    · obtain rfl : j = 8 := by omega
      go_wp2_with fail
      go_ret
      exact ⟨_, rfl, hO, hW⟩

end Go.Proofs.YtkfimfjjmdjbdaaGreatDoor
/- Walks: package edwards: points to bytes. -/
namespace Go.Proofs.YtkfimfjjmdjbdaaGreatDoor
open Go.RowKit

theorem or_0 {n : Int} (h0 : 0 ≤ n) (h1 : n < 9223372036854775808) : bits .or .u64 n 0 = n := by
  obtain ⟨N, rfl⟩ := Int.eq_ofNat_of_zero_le h0
  have := u64_or_nat N 0 (by omega) (by decide)
  rw [Nat.or_zero] at this
  exact this
theorem or_63 {n : Int} (h0 : 0 ≤ n) (h1 : n < 9223372036854775808) : bits .or .u64 n 9223372036854775808 = n + 9223372036854775808 := by
  obtain ⟨N, rfl⟩ := Int.eq_ofNat_of_zero_le h0
  have e := u64_or_nat N 9223372036854775808 (by omega) (by decide)
  have h2 := Nat.two_pow_add_eq_or_of_lt (i := 63) (b := N) (by omega) 1
  rw [Nat.or_comm, Nat.mul_one] at h2
  rw [show (9223372036854775808 : Int) = ((9223372036854775808 : Nat) : Int) from rfl, e, show (9223372036854775808 : Nat) = 2 ^ 63 from rfl, ← h2]
  omega

/-- What Write tells of no point. -/
theorem eWriteNo (X Y : Int) (hX : 0 ≤ X) (hY : 0 ≤ Y) (hn : Obol.isN (X.toNat, Y.toNat) = false) (w : World) :
    Calls Tryz.prog 69 #[edV X Y] w fun e w' => e = .returned (.tuple #[.slice none 0 0, errV 1]) ∧ Below w.heap.size w w' := by
  have hI := fun w => eIs X Y hX hY w
  rw [hn] at hI
  replace hI := Lib.hid hI
  clear hn
  go_enter Tryz.func69, Tryz.ntmps69
  go_wp2_with fail
  refine (hI.out _).mono ?_
  rintro e w' ⟨rfl, hb⟩
  have B := Lib.hid (bThen (bAlloc (Below.refl w.heap.size w) _) hb (by simp))
  clear hb
  go_wp2_with fail
  go_ret2
  exact ⟨rfl, B.out⟩

theorem eWrite (X Y : Int) (hX : 0 ≤ X) (hY : 0 ≤ Y) (hn : Obol.isN (X.toNat, Y.toNat) = true) (w : World) :
    Calls Tryz.prog 69 #[edV X Y] w fun e w' => ∃ v, e = .returned (.tuple #[v, .nilIface]) ∧ OwnB w' w.heap.size v (Obol.be8 (Obol.codeN (X.toNat, Y.toNat))) ∧ Below w.heap.size w w' := by
  have hI := fun w => eIs X Y hX hY w
  rw [hn] at hI
  replace hI := Lib.hid hI
  have hlt : X < 288230376287764481 ∧ Y < 288230376287764481 := by
    unfold Obol.isN at hn
    simp only [Bool.and_eq_true, decide_eq_true_eq] at hn
    have h1 := hn.1.1
    have h2 := hn.1.2
    rw [Obol.R_def] at h1 h2
    omega
  have ha := and_1 hX (by omega)
  have ho0 := or_0 hY (by omega)
  have ho1 := or_63 hY (by omega)
  have hP := fun (k : Int) (h0 : 0 ≤ k) (h1 : k ≤ 18446744073709551615) (W : World) (hB : w.heap.size ≤ W.heap.size) => ePut w.heap.size (.slice none 0 0) [] k h0 h1 (by decide) W hB (OwnB.nil _ _)
  replace hP := Lib.hid hP
  clear hn
  rcases (by omega : X % 2 = 0 ∨ X % 2 = 1) with hp | hp
  · have hc : Hid (Obol.codeN (X.toNat, Y.toNat) = Y.toNat) := Lib.hid (by unfold Obol.codeN; simp only; omega)
    rw [hp] at ha
    go_enter Tryz.func69, Tryz.ntmps69
    go_wp2_with fail
    refine (hI.out _).mono ?_
    rintro e w1 ⟨rfl, hb⟩
    have R := (Row.new w #[.int .u64 X, .int .u64 Y] 24).below hb (by simp)
    have B := bThen (bAlloc (Below.refl w.heap.size w) _) hb (by simp)
    have g0 := R.cell 0 rfl
    have g1 := R.cell 1 rfl
    have hz := B.size
    replace B := Lib.hid B
    clear hb
    go_wp2_with fail
    refine (hP.out Y hY (by omega) _ hz).mono ?_
    rintro e w2 ⟨v, rfl, hO, hb⟩
    replace hO := Lib.hid hO
    replace B := Lib.hid (B.out.trans hb)
    clear hb
    go_wp2_with fail
    go_ret2
    refine ⟨_, rfl, ?_, B.out⟩
    rw [hc.out]
    exact hO.out
  · have hc : Hid (Obol.codeN (X.toNat, Y.toNat) = (Y + 9223372036854775808).toNat) := Lib.hid (by unfold Obol.codeN; simp only; omega)
    rw [hp] at ha
    go_enter Tryz.func69, Tryz.ntmps69
    go_wp2_with fail
    refine (hI.out _).mono ?_
    rintro e w1 ⟨rfl, hb⟩
    have R := (Row.new w #[.int .u64 X, .int .u64 Y] 24).below hb (by simp)
    have B := bThen (bAlloc (Below.refl w.heap.size w) _) hb (by simp)
    have g0 := R.cell 0 rfl
    have g1 := R.cell 1 rfl
    have hz := B.size
    replace B := Lib.hid B
    clear hb
    go_wp2_with fail
    refine (hP.out (Y + 9223372036854775808) (by omega) (by omega) _ hz).mono ?_
    rintro e w2 ⟨v, rfl, hO, hb⟩
    replace hO := Lib.hid hO
    replace B := Lib.hid (B.out.trans hb)
    clear hb
    go_wp2_with fail
    go_ret2
    refine ⟨_, rfl, ?_, B.out⟩
    rw [hc.out]
    exact hO.out

end Go.Proofs.YtkfimfjjmdjbdaaGreatDoor
/- Walks: package blake: words; the mixing of four words. -/
namespace Obol

def rotW (n x : Nat) : Nat := (x * 2 ^ (32 - n) % 4294967296) ||| (x / 2 ^ n)
def add3 (p q x : Nat) : Nat := (p + q + x) % 4294967296
def add2 (p q : Nat) : Nat := (p + q) % 4294967296
/-- Four words of sixteen, with two more: eight statements. -/
def sA (L : List Nat) (a b x : Nat) : List Nat := L.set a (add3 (L.getD a 0) (L.getD b 0) x)
def sC (L : List Nat) (c d : Nat) : List Nat := L.set c (add2 (L.getD c 0) (L.getD d 0))
def sX (L : List Nat) (n t s : Nat) : List Nat := L.set t (rotW n (L.getD t 0 ^^^ L.getD s 0))
def mixL (L : List Nat) (a b c d x y : Nat) : List Nat :=
  sX (sC (sX (sA (sX (sC (sX (sA L a b x) 16 d a) c d) 12 b c) a b y) 8 d a) c d) 7 b c

/-- So many words. -/
structure W32 (n : Nat) (L : List Nat) : Prop where
  len : L.length = n
  lt : ∀ i, L.getD i 0 < 4294967296
theorem W32.set {n : Nat} {L : List Nat} (h : W32 n L) (i z : Nat) (hz : z < 4294967296) : W32 n (L.set i z) := by
  refine ⟨by rw [List.length_set]; exact h.len, fun j => ?_⟩
  rw [List.getD_eq_getElem?_getD, List.getElem?_set]
  split
  · split
    · exact hz
    · decide
  · rw [← List.getD_eq_getElem?_getD]; exact h.lt j
theorem rotW_lt (n x : Nat) (hx : x < 4294967296) : rotW n x < 4294967296 := by
  unfold rotW
  have h1 : x * 2 ^ (32 - n) % 4294967296 < 2 ^ 32 := Nat.mod_lt _ (by decide)
  have h2 : x / 2 ^ n < 2 ^ 32 := Nat.lt_of_le_of_lt (Nat.div_le_self _ _) hx
  exact Nat.or_lt_two_pow h1 h2
theorem add3_lt (p q x : Nat) : add3 p q x < 4294967296 := Nat.mod_lt _ (by decide)
theorem add2_lt (p q : Nat) : add2 p q < 4294967296 := Nat.mod_lt _ (by decide)
theorem xor_lt {p q : Nat} (hp : p < 4294967296) (hq : q < 4294967296) : p ^^^ q < 4294967296 := Nat.xor_lt_two_pow (n := 32) hp hq

end Obol
namespace Go.Proofs.YtkfimfjjmdjbdaaGreatDoor
open Go.RowKit

def u32s (L : List Nat) : Array Value := (L.map fun (n : Nat) => Value.int .u32 (n : Int)).toArray
theorem u32s_get {n : Nat} {L : List Nat} (h : Obol.W32 n L) (i : Nat) (hi : i < n) : (u32s L)[i]? = some (.int .u32 ((L.getD i 0 : Nat) : Int)) := by
  have hl : i < L.length := by rw [h.len]; exact hi
  unfold u32s
  rw [List.getElem?_toArray, List.getElem?_map, List.getElem?_eq_getElem hl, List.getD_eq_getElem?_getD, List.getElem?_eq_getElem hl]
  rfl
theorem rowSet {w : World} {k : Nat} {L : List Nat} {t : TypeId} (h : Row w k (u32s L) t) (i Z : Nat) {z : Int} (hz : z = (Z : Int)) : Row (w.setCell ⟨k, i, none⟩ (.int .u32 z)) k (u32s (L.set i Z)) t := by
  have e : (u32s L).setIfInBounds i (.int .u32 z) = u32s (L.set i Z) := by
    unfold u32s
    rw [List.setIfInBounds_toArray, List.map_set, hz]
  rw [← e]
  exact h.set i _
theorem add3_is {p q x : Int} {P Q : Nat} (hp : (P : Int) = p) (hq : (Q : Int) = q) (hx : 0 ≤ x) : (p + (q + x) % 4294967296) % 4294967296 = ((Obol.add3 P Q x.toNat : Nat) : Int) := by
  unfold Obol.add3; omega
theorem add2_is {p q : Int} {P Q : Nat} (hp : (P : Int) = p) (hq : (Q : Int) = q) : (p + q) % 4294967296 = ((Obol.add2 P Q : Nat) : Int) := by
  unfold Obol.add2; omega
theorem xor_eq {p q : Int} {P Q : Nat} (hp : (P : Int) = p) (hq : (Q : Int) = q) (h1 : P < 4294967296) (h2 : Q < 4294967296) : bits .xor .u32 p q = ((P ^^^ Q : Nat) : Int) := by
  subst hp hq; exact u32_xor_nat P Q h1 h2
theorem or_rot {x : Int} (n : Nat) (h0 : 0 ≤ x) (h1 : x ≤ 4294967295) : bits .or .u32 (x * 2 ^ (32 - n) % 4294967296) (x / 2 ^ n) = ((Obol.rotW n x.toNat : Nat) : Int) := by
  obtain ⟨X, rfl⟩ := Int.eq_ofNat_of_zero_le h0
  have e1 : (X : Int) * 2 ^ (32 - n) % 4294967296 = ((X * 2 ^ (32 - n) % 4294967296 : Nat) : Int) := by simp
  have e2 : (X : Int) / 2 ^ n = ((X / 2 ^ n : Nat) : Int) := by simp
  rw [e1, e2, u32_or_nat _ _ (Nat.mod_lt _ (by decide)) (Nat.lt_of_le_of_lt (Nat.div_le_self _ _) (by omega))]
  rfl
theorem rot16 (x : Int) (h0 : 0 ≤ x) (h1 : x ≤ 4294967295) (w : World) :
    Calls Tryz.prog 113 #[.int .u32 x, .int .i64 (-16)] w fun e w' => e = .returned (.int .u32 ((Obol.rotW 16 x.toNat : Nat) : Int)) ∧ w' = w := by
  have hs : bits .and .u64 (IntKind.u64.wrap (-16)) 31 = 16 := by decide +kernel
  have hr := Lib.hid (or_rot 16 h0 h1)
  go_enter Tryz.func113, Tryz.ntmps113
  go_wp2
  go_ret
  refine ⟨?_, rfl⟩
  rw [← hr.out]
  rfl
theorem rot12 (x : Int) (h0 : 0 ≤ x) (h1 : x ≤ 4294967295) (w : World) :
    Calls Tryz.prog 113 #[.int .u32 x, .int .i64 (-12)] w fun e w' => e = .returned (.int .u32 ((Obol.rotW 12 x.toNat : Nat) : Int)) ∧ w' = w := by
  have hs : bits .and .u64 (IntKind.u64.wrap (-12)) 31 = 20 := by decide +kernel
  have hr := Lib.hid (or_rot 12 h0 h1)
  go_enter Tryz.func113, Tryz.ntmps113
  go_wp2
  go_ret
  refine ⟨?_, rfl⟩
  rw [← hr.out]
  rfl
theorem rot8 (x : Int) (h0 : 0 ≤ x) (h1 : x ≤ 4294967295) (w : World) :
    Calls Tryz.prog 113 #[.int .u32 x, .int .i64 (-8)] w fun e w' => e = .returned (.int .u32 ((Obol.rotW 8 x.toNat : Nat) : Int)) ∧ w' = w := by
  have hs : bits .and .u64 (IntKind.u64.wrap (-8)) 31 = 24 := by decide +kernel
  have hr := Lib.hid (or_rot 8 h0 h1)
  go_enter Tryz.func113, Tryz.ntmps113
  go_wp2
  go_ret
  refine ⟨?_, rfl⟩
  rw [← hr.out]
  rfl
theorem rot7 (x : Int) (h0 : 0 ≤ x) (h1 : x ≤ 4294967295) (w : World) :
    Calls Tryz.prog 113 #[.int .u32 x, .int .i64 (-7)] w fun e w' => e = .returned (.int .u32 ((Obol.rotW 7 x.toNat : Nat) : Int)) ∧ w' = w := by
  have hs : bits .and .u64 (IntKind.u64.wrap (-7)) 31 = 25 := by decide +kernel
  have hr := Lib.hid (or_rot 7 h0 h1)
  go_enter Tryz.func113, Tryz.ntmps113
  go_wp2
  go_ret
  refine ⟨?_, rfl⟩
  rw [← hr.out]
  rfl

end Go.Proofs.YtkfimfjjmdjbdaaGreatDoor
/- Plain law: the digest. No program in sight. -/
namespace Obol

def firstL : List Nat := [1779033703, 3144134277, 1013904242, 2773480762, 1359893119, 2600822924, 528734635, 1541459225]
def rowsL : List (List Nat) := [
  [0, 1, 2, 3, 4, 5, 6, 7, 8, 9, 10, 11, 12, 13, 14, 15],
  [14, 10, 4, 8, 9, 15, 13, 6, 1, 12, 0, 2, 11, 7, 5, 3],
  [11, 8, 12, 0, 5, 2, 15, 13, 10, 14, 3, 6, 7, 1, 9, 4],
  [7, 9, 3, 1, 13, 12, 11, 14, 2, 6, 5, 10, 4, 0, 15, 8],
  [9, 0, 5, 7, 2, 4, 10, 15, 14, 1, 11, 12, 6, 8, 3, 13],
  [2, 12, 6, 10, 0, 11, 8, 3, 4, 13, 7, 5, 15, 14, 1, 9],
  [12, 5, 1, 15, 14, 13, 4, 10, 0, 7, 6, 3, 9, 2, 8, 11],
  [13, 11, 7, 14, 12, 1, 3, 9, 5, 0, 15, 4, 8, 6, 2, 10],
  [6, 15, 14, 9, 11, 3, 0, 8, 12, 2, 13, 7, 1, 4, 10, 5],
  [10, 2, 8, 4, 7, 6, 1, 5, 15, 11, 9, 14, 3, 12, 13, 0]]
def rowAt (i k : Nat) : Nat := (rowsL.getD i []).getD k 0
theorem rowAt_lt : ∀ i k : Nat, rowAt i k < 16 := by
  have h : ∀ l ∈ rowsL, ∀ x ∈ l, x < 16 := by decide +kernel
  intro i k
  unfold rowAt
  rw [List.getD_eq_getElem?_getD, List.getD_eq_getElem?_getD]
  cases hi : rowsL[i]? with
  | none => simp
  | some l =>
    simp only [Option.getD_some]
    cases hk : l[k]? with
    | none => simp
    | some x => exact h l (List.mem_of_getElem? hi) x (List.mem_of_getElem? hk)
def wordAt (b : List Nat) (o : Nat) : Nat := b.getD o 0 + 256 * b.getD (o + 1) 0 + 65536 * b.getD (o + 2) 0 + 16777216 * b.getD (o + 3) 0
def msgL (b : List Nat) (o : Nat) : List Nat := (List.range 16).map fun i => wordAt b (o + 4 * i)
def colMix (m : List Nat) (i k : Nat) (v : List Nat) : List Nat := mixL v k (4 + k) (8 + k) (12 + k) (m.getD (rowAt i (2 * k)) 0) (m.getD (rowAt i (2 * k + 1)) 0)
def diaMix (m : List Nat) (i k : Nat) (v : List Nat) : List Nat := mixL v k (4 + (k + 1) % 4) (8 + (k + 2) % 4) (12 + (k + 3) % 4) (m.getD (rowAt i (8 + 2 * k)) 0) (m.getD (rowAt i (9 + 2 * k)) 0)
def cols (m : List Nat) (i : Nat) : Nat → List Nat → List Nat
  | 0, v => v
  | k + 1, v => colMix m i k (cols m i k v)
def dias (m : List Nat) (i : Nat) : Nat → List Nat → List Nat
  | 0, v => v
  | k + 1, v => diaMix m i k (dias m i k v)
def rnds (m : List Nat) : Nat → List Nat → List Nat
  | 0, v => v
  | i + 1, v => dias m i 4 (cols m i 4 (rnds m i v))
def last14 (v : List Nat) (last : Bool) : List Nat := if last then v.set 14 (v.getD 14 0 ^^^ 4294967295) else v
def count12 (v : List Nat) (count : Nat) : List Nat := (v.set 12 (v.getD 12 0 ^^^ (count % 4294967296))).set 13 ((v.set 12 (v.getD 12 0 ^^^ (count % 4294967296))).getD 13 0 ^^^ (count / 4294967296 % 4294967296))
def startV (h : List Nat) (count : Nat) (last : Bool) : List Nat := last14 (count12 (h ++ firstL) count) last
def endV (h v : List Nat) : Nat → List Nat → List Nat
  | 0, l => l
  | i + 1, l => (endV h v i l).set i (h.getD i 0 ^^^ (v.getD i 0 ^^^ v.getD (8 + i) 0))
def pressL (h m : List Nat) (count : Nat) (last : Bool) : List Nat := endV h (rnds m 10 (startV h count last)) 8 h
def initH (p : List Nat) : List Nat := ((firstL.set 0 1795745351).set 6 (528734635 ^^^ wordAt p 0)).set 7 (1541459225 ^^^ wordAt p 4)
def stH (p b : List Nat) : Nat → List Nat
  | 0 => initH p
  | j + 1 => pressL (stH p b j) (msgL b (64 * j)) (min (64 * (j + 1)) b.length) (decide (b.length ≤ 64 * (j + 1)))
def nBlocks (len : Nat) : Nat := if len = 0 then 1 else (len + 63) / 64
def bytes4 (x : Nat) : List Nat := [x % 256, x / 256 % 256, x / 65536 % 256, x / 16777216 % 256]
def wordsB (l : List Nat) : List Nat := l.flatMap bytes4
def sumL (p b : List Nat) : List Nat := wordsB (stH p b (nBlocks b.length))

theorem sumL_abc : (sumL [] [97, 98, 99]).getD 0 0 = 80 ∧ (sumL [] [97, 98, 99]).getD 1 0 = 140 ∧ (sumL [] [97, 98, 99]).getD 31 0 = 130 := by decide +kernel

end Obol
/- Whole blocks that are arrays: loaded and stored in one piece. -/
namespace Go.Proofs.YtkfimfjjmdjbdaaGreatDoor
open Go.RowKit

theorem Row.range {w : World} {b : Nat} {cs : Array Value} {t : TypeId} (h : Row w b cs t) : w.rangeAt b 0 cs.toList := fun j v hj => by
  rw [Nat.zero_add]
  exact h.cell j (by simpa using hj)
theorem Row.there {w : World} {b : Nat} {cs : Array Value} {t : TypeId} (h : Row w b cs t) : w.there b 0 cs.size := fun j hj => by
  rw [Nat.zero_add, h.cell j (v := cs[j]) (by simp [hj])]
  exact ⟨rfl, h.free j⟩
theorem Row.setMany {b : Nat} {t : TypeId} : ∀ (vs : List Value) (o : Nat) (w : World) (cs : Array Value), Row w b cs t → o + vs.length ≤ cs.size →
    Row (w.setCells b o vs) b (cs.toList.take o ++ vs ++ cs.toList.drop (o + vs.length)).toArray t
  | [], o, w, cs, h, _ => by simpa [World.setCells] using h
  | v :: r, o, w, cs, h, hs => by
    have hs' : o + 1 + r.length ≤ (cs.setIfInBounds o v).size := by simp at hs ⊢; omega
    have ih := Row.setMany r (o + 1) _ _ (h.set o v) hs'
    have ho : o < cs.size := by simp at hs; omega
    rw [World.setCells]
    have e : (cs.setIfInBounds o v).toList.take (o + 1) ++ r ++ (cs.setIfInBounds o v).toList.drop (o + 1 + r.length) = cs.toList.take o ++ v :: r ++ cs.toList.drop (o + (v :: r).length) := by
      have h1 : (cs.toList.set o v).take (o + 1) = cs.toList.take o ++ [v] := by
        rw [List.take_add_one, List.take_set_of_le (Nat.le_refl o), List.getElem?_set_self (by simpa using ho)]
        rfl
      have h2 : (cs.toList.set o v).drop (o + 1 + r.length) = cs.toList.drop (o + (v :: r).length) := by
        rw [List.drop_set_of_lt (by omega), List.length_cons, show o + 1 + r.length = o + (r.length + 1) by omega]
      rw [Array.toList_setIfInBounds, h1, h2]
      simp
    rw [← e]
    exact ih
theorem Row.store {w : World} {b : Nat} {cs : Array Value} {t : TypeId} (h : Row w b cs t) (cs' : Array Value) (hs : cs'.size = cs.size) : Row (w.setCells b 0 cs'.toList) b cs' t := by
  have := Row.setMany cs'.toList 0 w cs h (by simp [hs])
  have e : cs.toList.take 0 ++ cs'.toList ++ cs.toList.drop (0 + cs'.toList.length) = cs'.toList := by
    rw [List.take_zero, List.nil_append, List.drop_eq_nil_of_le (by simp [hs]), List.append_nil]
  rw [e] at this
  exact this

theorem bSetMany {B : Nat} {a : World} {b : Nat} (hb : B ≤ b) : ∀ (vs : List Value) (o : Nat) (w : World), Below B a w → Below B a (w.setCells b o vs)
  | [], _, _, h => h
  | v :: r, o, w, h => bSetMany hb r (o + 1) _ (bSet h hb)

/-- A result that is an array in a block of its own. -/
theorem results_row {P : Program} {fn : Func} {p : Tmp} {t : TypeId} (h : fn.results = #[.cell p t]) (tmps : Array Value) {w : World} {b : Nat} {cs : Array Value} {d : TypeDesc} (ht : tmps.getD p undef = .pointer (some ⟨b, 0, none⟩))
    (hR : Row w b cs t) (hu : P.underlying t = some d) (hd : d.isRow = true) (hi : (P.info? t).map (·.size) = some cs.size) : (results fn tmps).run P w = .ok (.agg cs) w := by
  have hl := run_loadVar_mid (P := P) w b 0 t cs.toList d hR.range hu hd (by rw [hi]; simp)
  rw [Array.toArray_toList] at hl
  have ht' : tmps[p]?.getD undef = .pointer (some ⟨b, 0, none⟩) := by simpa using ht
  simp [results, h, ht', asAddr, hl]

end Go.Proofs.YtkfimfjjmdjbdaaGreatDoor
/- Walks: package blake: a word of four bytes; the words of the beginning. -/
namespace Go.Proofs.YtkfimfjjmdjbdaaGreatDoor
open Go.RowKit

theorem or_at (k : Nat) (hk : k ≤ 24) {p c : Int} (p0 : 0 ≤ p) (p1 : p < 2 ^ k) (c0 : 0 ≤ c) (c1 : c ≤ 255) : bits .or .u32 p (c * 2 ^ k) = p + c * 2 ^ k := by
  obtain ⟨P, rfl⟩ := Int.eq_ofNat_of_zero_le p0
  obtain ⟨C, rfl⟩ := Int.eq_ofNat_of_zero_le c0
  have hP : P < 2 ^ k := by
    have e : ((2 ^ k : Nat) : Int) = 2 ^ k := by rw [Int.natCast_pow]; rfl
    omega
  have hk2 : 2 ^ k ≤ 2 ^ 24 := Nat.pow_le_pow_right (by decide) hk
  have hC : C * 2 ^ k ≤ 255 * 2 ^ 24 := Nat.mul_le_mul (by omega) hk2
  have e2 : ((C : Int) * 2 ^ k) = ((C * 2 ^ k : Nat) : Int) := by rw [Int.natCast_mul, Int.natCast_pow]; rfl
  have h := Nat.two_pow_add_eq_or_of_lt hP C
  rw [e2, u32_or_nat _ _ (by omega) (by omega), Nat.or_comm, Nat.mul_comm C, ← h]
  omega

theorem bWord (b a len cap : Nat) (hl : 4 ≤ len) (hl2 : len ≤ 9223372036854775807) (v0 v1 v2 v3 : Int) (h0 : 0 ≤ v0) (g0 : v0 ≤ 255) (h1 : 0 ≤ v1) (g1 : v1 ≤ 255) (h2 : 0 ≤ v2) (g2 : v2 ≤ 255) (h3 : 0 ≤ v3) (g3 : v3 ≤ 255) (w : World)
    (c0 : w.cell? ⟨b, a, none⟩ = some (.int .u8 v0)) (c1 : w.cell? ⟨b, a + 1, none⟩ = some (.int .u8 v1)) (c2 : w.cell? ⟨b, a + 2, none⟩ = some (.int .u8 v2)) (c3 : w.cell? ⟨b, a + 3, none⟩ = some (.int .u8 v3)) :
    Calls Tryz.prog 51 #[.slice (some ⟨b, a, none⟩) len cap] w fun e w' => e = .returned (.int .u32 (v0 + v1 * 256 + v2 * 65536 + v3 * 16777216)) ∧ ∃ n, w' = w.drewN n := by
  have e1 : bits .or .u32 v0 (v1 * 256) = v0 + v1 * 256 := or_at 8 (by decide) h0 (by omega) h1 g1
  have e2 : bits .or .u32 (v0 + v1 * 256) (v2 * 65536) = v0 + v1 * 256 + v2 * 65536 := or_at 16 (by decide) (by omega) (by omega) h2 g2
  have e3 : bits .or .u32 (v0 + v1 * 256 + v2 * 65536) (v3 * 16777216) = v0 + v1 * 256 + v2 * 65536 + v3 * 16777216 := or_at 24 (by decide) (by omega) (by omega) h3 g3
  go_enter Tryz.func51, Tryz.ntmps51
  go_wp2_with fail
  go_quiet (fail)
  go_wp2
  go_ret
  exact ⟨rfl, _, rfl⟩

/-- The same at bytes that are told as a list. -/
theorem bWordAt (b q o a len cap : Nat) (B : List Nat) (n : Nat) (H : B8 n B) (ha : a = q + o) (hl : 4 ≤ len) (hl2 : len ≤ 9223372036854775807) (ho : o + 3 < n) (w : World) (hc : BL w b q B) :
    Calls Tryz.prog 51 #[.slice (some ⟨b, a, none⟩) len cap] w fun e w' => e = .returned (.int .u32 ((Obol.wordAt B o : Nat) : Int)) ∧ ∃ n, w' = w.drewN n := by
  subst ha
  have g : ∀ j, B.getD j 0 ≤ 255 := fun j => by have := H.lt j; omega
  have h := bWord b (q + o) len cap hl hl2 ((B.getD o 0 : Nat) : Int) ((B.getD (o + 1) 0 : Nat) : Int) ((B.getD (o + 2) 0 : Nat) : Int) ((B.getD (o + 3) 0 : Nat) : Int)
    (by omega) (by have := g o; omega) (by omega) (by have := g (o + 1); omega) (by omega) (by have := g (o + 2); omega) (by omega) (by have := g (o + 3); omega) w
    (hc o (by rw [H.len]; omega)) (hc (o + 1) (by rw [H.len]; omega)) (hc (o + 2) (by rw [H.len]; omega)) (hc (o + 3) (by rw [H.len]; omega))
  refine h.mono ?_
  rintro e w' ⟨rfl, k⟩
  refine ⟨?_, k⟩
  congr 2
  unfold Obol.wordAt
  omega

theorem bFirst (w : World) :
    Calls Tryz.prog 77 #[] w fun e w' => e = .returned (.agg (u32s Obol.firstL)) ∧ Below w.heap.size w w' := by
  go_enter Tryz.func77, Tryz.ntmps77
  go_wp2_with fail
  refine bodyPost_ret (v := .agg (u32s Obol.firstL)) (results_row rfl _ rfl (Row.new w (u32s Obol.firstL) 96) Tryz.underlying96 rfl (by kernel_rfl)) rfl ⟨rfl, ?_⟩
  exact bAlloc (Below.refl _ _) _

end Go.Proofs.YtkfimfjjmdjbdaaGreatDoor
