import Derived.Test.YtcdfpceagobicaaDoorWm
import Derived.Deep.LoopGhost
/- Walks: package modular: powers. -/
namespace Go.Proofs.YtcdfpceagobicaaDoor
open Go.RowKit

structure PowInv (M A E : Nat) (O X en : Int) : Prop where
  o0 : 0 ≤ O
  x0 : 0 ≤ X
  e0 : 0 ≤ en
  e1 : en ≤ 18446744073709551615
  lt : O.toNat < M
  eq : O.toNat * X.toNat ^ en.toNat % M = A ^ E % M

theorem PowInv.one {M A E : Nat} {O X en : Int} (h : PowInv M A E O X en) (hp : 0 < en) (ho : en % 2 = 1) :
    PowInv M A E ((Obol.mulM M O.toNat X.toNat : Nat) : Int) ((Obol.mulM M X.toNat X.toNat : Nat) : Int) (en / 2) := by
  have h0 := h.e0
  have h1 := h.e1
  have hM : 0 < M := Nat.lt_of_le_of_lt (Nat.zero_le _) h.lt
  refine ⟨by omega, by omega, by omega, by omega, by rw [Int.toNat_natCast]; exact Nat.mod_lt _ hM, ?_⟩
  have := Obol.low_pow M X.toNat en.toNat O.toNat (by omega)
  rw [if_pos (by omega)] at this
  rw [Int.toNat_natCast, Int.toNat_natCast, show (en / 2).toNat = en.toNat / 2 by omega]
  exact this.trans h.eq
theorem PowInv.zero {M A E : Nat} {O X en : Int} (h : PowInv M A E O X en) (hp : 0 < en) (ho : en % 2 = 0) :
    PowInv M A E O ((Obol.mulM M X.toNat X.toNat : Nat) : Int) (en / 2) := by
  have h0 := h.e0
  have h1 := h.e1
  have ho0 := h.o0
  refine ⟨ho0, by omega, by omega, by omega, h.lt, ?_⟩
  have := Obol.low_pow M X.toNat en.toNat O.toNat (by omega)
  rw [if_neg (by omega)] at this
  rw [Int.toNat_natCast, show (en / 2).toNat = en.toNat / 2 by omega]
  exact this.trans h.eq
theorem PowInv.done {M A E : Nat} {O X en : Int} (h : PowInv M A E O X en) (hp : en = 0) : O = ((Obol.powM M A E : Nat) : Int) := by
  have h1 := h.eq
  have h2 := h.o0
  rw [hp, show (0 : Int).toNat = 0 from rfl, Nat.pow_zero, Nat.mul_one, Nat.mod_eq_of_lt h.lt] at h1
  rw [Obol.powM, ← h1]
  omega

set_option maxHeartbeats 1000000 in
theorem mPow (m a x : Int) (h0 : 2 ≤ m) (h1 : m ≤ 4611686018427387904) (ha : 0 ≤ a) (hx : 0 ≤ x) (hx1 : x ≤ 18446744073709551615) (w : World) :
    Calls Tryd.prog 32 #[.int .u64 m, .int .u64 a, .int .u64 x] w fun e w' => e = .returned (.int .u64 ((Obol.powM m.toNat a.toNat x.toNat : Nat) : Int)) ∧ ∃ n, w' = w.drewN n := by
  have i0 : PowInv m.toNat a.toNat x.toNat 1 (a % m) x := by
    refine ⟨by omega, Int.emod_nonneg a (by omega), hx, hx1, by omega, ?_⟩
    rw [show (1 : Int).toNat = 1 from rfl, Nat.one_mul, Int.toNat_emod ha (by omega), ← Nat.pow_mod]
  have I0 := Lib.hid i0
  clear i0
  go_enter Tryd.func32, Tryd.ntmps32
  go_wp2_with (go_at_call 43; refine (no_ok _ h0 h1 _).mono ?_; rintro e w' ⟨rfl, rfl⟩)
  go_loopw [7, 1, 2] (fun o b e wr => ∃ O X en : Int, o = .int .u64 O ∧ b = .int .u64 X ∧ e = .int .u64 en ∧ Hid (PowInv m.toNat a.toNat x.toNat O X en) ∧ ∃ n, wr = w.drewN n) (fun _ _ e _ => (intOf e).toNat)
  case atStart => exact ⟨1, a % m, x, rfl, rfl, rfl, I0, 0, rfl⟩
  case round =>
    obtain ⟨O, X, en, rfl, rfl, rfl, HI, n, rfl⟩ := hrel
    have j1 := HI.out.o0
    have j2 := HI.out.x0
    have j3 := HI.out.e0
    have j4 := HI.out.e1
    have ea := and_one_u64 en j3 j4
    by_cases hp : 0 < en
    · by_cases ho : en % 2 = 1
      · have HN := Lib.hid (HI.out.one hp ho)
        go_wp2_with (go_at_call 44; refine (mMul _ _ _ h0 h1 (by omega) (by omega) _).mono ?_; rintro e w' ⟨rfl, n', rfl⟩)
        go_roundw
        case rel => exact ⟨_, _, _, rfl, rfl, rfl, HN, _, rfl⟩
        case measure => simp [intOf]; omega
      · have ho' : en % 2 = 0 := by omega
        have HN := Lib.hid (HI.out.zero hp ho')
        clear ho
        go_wp2_with (go_at_call 44; refine (mMul _ _ _ h0 h1 (by omega) (by omega) _).mono ?_; rintro e w' ⟨rfl, n', rfl⟩)
        go_roundw
        case rel => exact ⟨_, _, _, rfl, rfl, rfl, HN, _, rfl⟩
        case measure => simp [intOf]; omega
    · have HD := Lib.hid (HI.out.done (by omega))
      go_wp2_with (fail)
      go_ret
      exact ⟨ret_u64 HD.out, _, rfl⟩

end Go.Proofs.YtcdfpceagobicaaDoor
