import Derived.Test.YtkfimfjjmdjbdaaUe
import Derived.Test.YtkfimfjjmdjbdaaUd
set_option linter.unusedVariables false
set_option linter.unusedSimpArgs false
set_option linter.unusedSectionVars false
/- Walks: package modular: whether there is an inverse modulo P. -/
namespace Obol
theorem gcd_P {a : Nat} (h0 : a ≠ 0) (h1 : a < P) : Nat.gcd P a = 1 := by
  rcases rootP.prm.2 (Nat.gcd P a) (Nat.gcd_dvd_left P a) with e | e
  · exact e
  · exfalso
    have := Nat.le_of_dvd (by omega) (Nat.gcd_dvd_right P a)
    omega
/-- What is known ahead of each round of Euclid's. -/
structure GcdI (a : Nat) (x y u v : Int) : Prop where
  x0 : 0 ≤ x
  x1 : x ≤ 1152921505151057923
  y0 : 0 ≤ y
  y1 : y ≤ 1152921505151057923
  u0 : 0 ≤ u
  v0 : 0 ≤ v
  eq : Nat.gcd x.toNat y.toNat = Nat.gcd P a
theorem GcdI.step {a : Nat} {x y u v v' : Int} (h : GcdI a x y u v) (hy : 0 < y) (hv : 0 ≤ v') : GcdI a y (x % y) v v' where
  x0 := h.y0
  x1 := h.y1
  y0 := Int.emod_nonneg _ (by omega)
  y1 := by have := Int.emod_lt_of_pos x hy; have := h.y1; omega
  u0 := h.v0
  v0 := hv
  eq := by
    rw [Int.toNat_emod h.x0 h.y0, Nat.gcd_comm, ← Nat.gcd_rec, Nat.gcd_comm]
    exact h.eq
theorem GcdI.done {a : Nat} {x u v : Int} (h : GcdI a x 0 u v) : x = ((Nat.gcd P a : Nat) : Int) := by
  have := h.eq
  rw [show (0 : Int).toNat = 0 from rfl, Nat.gcd_zero_right] at this
  have := h.x0
  omega
end Obol
namespace Go.Proofs.Ytkfimfjjmdjbdaa
open Go.RowKit

def InvSaid (a : Nat) (w : World) (e : Ending) (w' : World) : Prop :=
  (∃ u v : Int, 0 ≤ u ∧ v = ((Nat.gcd Obol.P a : Nat) : Int) ∧ e = .returned (if v = 1 then .tuple #[.int .u64 u, .nilIface] else .tuple #[.int .u64 0, errV 2])) ∧ ∃ n, w' = w.drewN n
set_option maxHeartbeats 1000000 in
theorem mInvP (a : Int) (ha : 0 ≤ a) (ha1 : a < 1152921505151057923) (w : World) :
    Calls Try.prog 76 #[.int .u64 1152921505151057923, .int .u64 a] w (InvSaid a.toNat w) := by
  have hm : a % 1152921505151057923 = a := Int.emod_eq_of_lt ha ha1
  have ht : a.tmod 1152921505151057923 = a := by rw [Int.tmod_eq_emod_of_nonneg ha]; exact hm
  have I0 : Hid (Obol.GcdI a.toNat 1152921505151057923 a 0 1) := Lib.hid ⟨by omega, by omega, ha, by omega, by omega, by omega, by rw [litP]⟩
  have HN := Lib.hid (fun w => no_ok 1152921505151057923 (by omega) (by omega) w)
  clear hm
  go_enter Try.func76, Try.ntmps76
  go_wp2_with (go_at_call 91; refine (HN.out _).mono ?_; rintro e w' ⟨rfl, rfl⟩)
  go_quiet (fail)
  go_wp2_with fail
  go_loopw [6, 7, 8, 9] (fun q1 q2 q3 q4 wr => ∃ x y u v : Int, q1 = .int .u64 x ∧ q2 = .int .u64 y ∧ q3 = .int .u64 u ∧ q4 = .int .u64 v ∧ Hid (Obol.GcdI a.toNat x y u v) ∧ ∃ n, wr = w.drewN n) (fun _ q2 _ _ _ => (intOf q2).toNat)
  case atStart => exact ⟨1152921505151057923, a, 0, 1, rfl, rfl, rfl, rfl, I0, _, rfl⟩
  case round =>
    clear I0
    obtain ⟨x, y, u, v, rfl, rfl, rfl, rfl, HI, n, rfl⟩ := hrel
    have x0 := HI.out.x0
    have y0 := HI.out.y0
    have u0 := HI.out.u0
    have v0 := HI.out.v0
    by_cases hy : 0 < y
    · have hyz : (y == 0) = false := beq_eq_false_iff_ne.2 (by omega)
      have t1 : x.tmod y = x % y := Int.tmod_eq_emod_of_nonneg x0
      have t2 : x.tdiv y = x / y := Int.tdiv_eq_ediv_of_nonneg x0
      have q0 : 0 ≤ x / y := Int.ediv_nonneg x0 y0
      have hw : IntKind.u64.wrap (x / y) = x / y := by
        have h1 := Int.ediv_le_self y x0
        have h2 := HI.out.x1
        rw [IntKind.wrap_u64]
        exact Int.emod_eq_of_lt q0 (by omega)
      have hlt := Int.emod_lt_of_pos x hy
      have hnn := Int.emod_nonneg x (show y ≠ 0 by omega)
      have hst := Lib.hid (fun v' hv' => HI.out.step (v' := v') hy hv')
      go_wp2_with fail
      go_quiet (fail)
      go_wp2_with (first | (go_at_call 90; refine (PMul _ _ q0 v0 _).mono ?_; rintro e w' ⟨rfl, n', rfl⟩) | (go_at_call 67; refine (PSub _ _ u0 (Int.natCast_nonneg _) _).mono ?_; rintro e w' ⟨rfl, n', rfl⟩))
      go_roundw
      case rel => exact ⟨_, _, _, _, rfl, rfl, rfl, rfl, Lib.hid (hst.out _ (Int.natCast_nonneg _)), _, rfl⟩
      case measure => simp [intOf]; omega
    · obtain rfl : y = 0 := by omega
      have hD := HI.out.done
      by_cases h1 : x = 1
      · subst h1
        have hd := Lib.hid hD
        clear hD
        go_wp2_with fail
        go_ret2
        exact ⟨⟨u, 1, u0, hd.out, congrArg Ending.returned (if_pos rfl).symm⟩, _, rfl⟩
      · have hx : (x != 1) = true := bne_iff_ne.2 h1
        have hd := Lib.hid hD
        replace h1 := Lib.hid h1
        clear hD
        go_wp2_with fail
        go_ret2
        exact ⟨⟨0, x, by omega, hd.out, congrArg Ending.returned (if_neg h1.out).symm⟩, _, rfl⟩

end Go.Proofs.Ytkfimfjjmdjbdaa
