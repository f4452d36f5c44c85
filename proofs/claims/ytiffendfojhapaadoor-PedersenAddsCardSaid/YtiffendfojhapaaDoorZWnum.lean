import Derived.Test.YtiffendfojhapaaDoorZWup5
import Derived.BigQuiet
set_option linter.unusedVariables false
set_option linter.unusedSimpArgs false
/- Walks: package blake: the number of a digest. -/
namespace Obol
/-- The first eight bytes' number, the lowest first. -/
def numL (b : List Nat) : Nat := wordAt b 0 + 4294967296 * wordAt b 4
end Obol
namespace Go.Proofs.YtiffendfojhapaaDoor
open Go.RowKit

/-- What an error value of package api is. -/
abbrev errC (k : Int) : Value := .iface 28 (.int .i64 k)

theorem or_32 {p q : Int} (p0 : 0 ≤ p) (p1 : p < 4294967296) (q0 : 0 ≤ q) (q1 : q < 4294967296) : bits .or .u64 p (q * 4294967296) = p + 4294967296 * q := by
  obtain ⟨P, rfl⟩ := Int.eq_ofNat_of_zero_le p0
  obtain ⟨Q, rfl⟩ := Int.eq_ofNat_of_zero_le q0
  have h := Nat.two_pow_add_eq_or_of_lt (i := 32) (b := P) (by omega) Q
  have e : ((Q : Int) * 4294967296) = ((2 ^ 32 * Q : Nat) : Int) := by simp; omega
  rw [e, u64_or_nat _ _ (by omega) (by omega), Nat.or_comm, ← h]
  simp
  omega

theorem bNumber (s : ByteArray) (hs : s.size ≤ 8) (ao : Option Addr) (len cap : Nat) (L : List Nat) (H : B8 len L) (m : Int) (m0 : 0 < m) (m1 : m ≤ 18446744073709551615) (w : World) (hS : SlI w.heap.size w ao cap L) (hG : RowsAt w) :
    Calls Tryd.prog 18 #[.string s, .slice ao len cap, .int .u64 m] w fun e w' => e = .returned (.tuple #[.int .u64 (((Obol.numL (Obol.sumL (strL s) L) : Nat) : Int) % m), .nilIface]) ∧ Below w.heap.size w w' := by
  have cS := Lib.hid (bSum2 s hs ao len cap L H w hS hG)
  have hD := sumL_b8 (strL s) L (strL_lt s)
  generalize Obol.sumL (strL s) L = D at cS hD
  obtain ⟨x, hx⟩ : ∃ z : Int, ((Obol.wordAt D 0 : Nat) : Int) = z := ⟨_, rfl⟩
  obtain ⟨y, hy⟩ : ∃ z : Int, ((Obol.wordAt D 4 : Nat) : Int) = z := ⟨_, rfl⟩
  have lx := Obol.wordAt_lt D hD.lt 0
  have ly := Obol.wordAt_lt D hD.lt 4
  have x0 : 0 ≤ x := by omega
  have y0 : 0 ≤ y := by omega
  have x1 : x < 4294967296 := by omega
  have y1 : y < 4294967296 := by omega
  have hor := or_32 x0 x1 y0 y1
  have ht : (x + 4294967296 * y).tmod m = (x + 4294967296 * y) % m := Int.tmod_eq_emod_of_nonneg (by omega)
  have hN : Hid (((Obol.numL D : Nat) : Int) = x + 4294967296 * y) := Lib.hid (by unfold Obol.numL; omega)
  have hm0 : (m == 0) = false := beq_eq_false_iff_ne.2 (by omega)
  go_enter Tryd.func18, Tryd.ntmps18
  go_wp2_with fail
  refine cS.out.mono ?_
  rintro e w1 ⟨g, cap2, rfl, hg, hO, hb⟩
  have hB := Lib.hid hb
  have bl := (hD.len ▸ hO : OwnB w1 _ (.slice (some ⟨g, 0, none⟩) D.length cap2) D).bl
  have hcap : (32 : Nat) ≤ cap2 := by
    rcases hO.2 with ⟨h, _⟩ | ⟨g', cap', cur, h1, _, _, h4, _⟩
    · cases h
    · simp only [Value.slice.injEq] at h1
      obtain ⟨_, _, rfl⟩ := h1
      rw [hD.len] at h4
      exact h4
  have c0 := fun n => bWordAt g 0 0 0 32 cap2 D 32 hD rfl (by omega) (by omega) (by omega) (w1.drewN n) (fun i hi => bl i hi)
  have c4 := fun n => bWordAt g 0 4 4 28 (cap2 - 4) D 32 hD rfl (by omega) (by omega) (by omega) (w1.drewN n) (fun i hi => bl i hi)
  rw [hx] at c0
  rw [hy] at c4
  clear hb hO bl hx hy lx ly hD
  have hsl := fun W => slice_rest (P := Tryd.prog) 22 5 Tryd.underlying22 info8 g 0 32 cap2 4 (by omega) hcap W
  rw [if_neg (by omega), Nat.zero_add] at hsl
  have hsl' : ∀ W, (Instr.slice 22 (.slice (some ⟨g, 0, none⟩) 32 cap2) (some (.int .i64 4)) none none).run Tryd.prog W = .ok (.slice (some ⟨g, 4, none⟩) 28 (cap2 - 4)) W := hsl
  replace c0 := Lib.hid c0
  replace c4 := Lib.hid c4
  clear hsl
  go_wp2_with fail
  go_quiet (first
    | (go_at_call_of 41 (Value.slice (some (⟨g, 0, none⟩ : Addr)) 32 cap2); first | (refine Calls.quiet_of (c0.out _)) | (refine quiet_add (c0.out _)))
    | (go_at_call 41; first | (refine Calls.quiet_of (c4.out _)) | (refine quiet_add (c4.out _))))
  go_wp2
  go_ret2
  refine ⟨?_, bDrewN hB.out _⟩
  rw [hN.out]
  rfl

end Go.Proofs.YtiffendfojhapaaDoor
