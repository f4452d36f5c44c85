import Derived.Test.YtiffendfojhapaaDoorBlake
import Derived.Test.YtiffendfojhapaaDoorWbyte
import Derived.Test.YtiffendfojhapaaDoorWarr
import Derived.Deep.RegionWith
import Derived.BigRegion
/- Walks: package blake: a word of four bytes; the words of the beginning. -/
namespace Go.Proofs.YtiffendfojhapaaDoor
open Go.RowKit

theorem or_at (k : Nat) (hk : k ≤ 24) {p c : Int} (p0 : 0 ≤ p) (p1 : p < 2 ^ k) (c0 : 0 ≤ c) (c1 : c ≤ 255) : bits .or .u32 p (c * 2 ^ k) = p + c * 2 ^ k := by
  obtain ⟨P, rfl⟩ := Int.eq_ofNat_of_zero_le p0
  obtain ⟨C, rfl⟩ := Int.eq_ofNat_of_zero_le c0
  have hP : P < 2 ^ k := by
    have e : ((2 ^ k : Nat) : Int) = 2 ^ k := by rw [Int.natCast_pow]; rfl
    omega
  have hk2 : 2 ^ k ≤ 2 ^ 24 := Nat.pow_le_pow_right (by decide) hk
  have hC : C * 2 ^ k ≤ 255 * 2 ^ 24 := Nat.mul_le_mul (by omega) hk2
  have e2 : ((C : Int) * 2 ^ k) = ((C * 2 ^ k : Nat) : Int) := by rw [Int.natCast_mul, Int.natCast_pow]; rfl
  have h := Nat.two_pow_add_eq_or_of_lt hP C
  rw [e2, u32_or_nat _ _ (by omega) (by omega), Nat.or_comm, Nat.mul_comm C, ← h]
  omega

theorem bWord (b a len cap : Nat) (hl : 4 ≤ len) (hl2 : len ≤ 9223372036854775807) (v0 v1 v2 v3 : Int) (h0 : 0 ≤ v0) (g0 : v0 ≤ 255) (h1 : 0 ≤ v1) (g1 : v1 ≤ 255) (h2 : 0 ≤ v2) (g2 : v2 ≤ 255) (h3 : 0 ≤ v3) (g3 : v3 ≤ 255) (w : World)
    (c0 : w.cell? ⟨b, a, none⟩ = some (.int .u8 v0)) (c1 : w.cell? ⟨b, a + 1, none⟩ = some (.int .u8 v1)) (c2 : w.cell? ⟨b, a + 2, none⟩ = some (.int .u8 v2)) (c3 : w.cell? ⟨b, a + 3, none⟩ = some (.int .u8 v3)) :
    Calls Tryd.prog 41 #[.slice (some ⟨b, a, none⟩) len cap] w fun e w' => e = .returned (.int .u32 (v0 + v1 * 256 + v2 * 65536 + v3 * 16777216)) ∧ ∃ n, w' = w.drewN n := by
  have e1 : bits .or .u32 v0 (v1 * 256) = v0 + v1 * 256 := or_at 8 (by decide) h0 (by omega) h1 g1
  have e2 : bits .or .u32 (v0 + v1 * 256) (v2 * 65536) = v0 + v1 * 256 + v2 * 65536 := or_at 16 (by decide) (by omega) (by omega) h2 g2
  have e3 : bits .or .u32 (v0 + v1 * 256 + v2 * 65536) (v3 * 16777216) = v0 + v1 * 256 + v2 * 65536 + v3 * 16777216 := or_at 24 (by decide) (by omega) (by omega) h3 g3
  go_enter Tryd.func41, Tryd.ntmps41
  go_wp2_with fail
  go_quiet (fail)
  go_wp2
  go_ret
  exact ⟨rfl, _, rfl⟩

/-- The same at bytes that are told as a list. -/
theorem bWordAt (b q o a len cap : Nat) (B : List Nat) (n : Nat) (H : B8 n B) (ha : a = q + o) (hl : 4 ≤ len) (hl2 : len ≤ 9223372036854775807) (ho : o + 3 < n) (w : World) (hc : BL w b q B) :
    Calls Tryd.prog 41 #[.slice (some ⟨b, a, none⟩) len cap] w fun e w' => e = .returned (.int .u32 ((Obol.wordAt B o : Nat) : Int)) ∧ ∃ n, w' = w.drewN n := by
  subst ha
  have g : ∀ j, B.getD j 0 ≤ 255 := fun j => by have := H.lt j; omega
  have h := bWord b (q + o) len cap hl hl2 ((B.getD o 0 : Nat) : Int) ((B.getD (o + 1) 0 : Nat) : Int) ((B.getD (o + 2) 0 : Nat) : Int) ((B.getD (o + 3) 0 : Nat) : Int)
    (by omega) (by have := g o; omega) (by omega) (by have := g (o + 1); omega) (by omega) (by have := g (o + 2); omega) (by omega) (by have := g (o + 3); omega) w
    (hc o (by rw [H.len]; omega)) (hc (o + 1) (by rw [H.len]; omega)) (hc (o + 2) (by rw [H.len]; omega)) (hc (o + 3) (by rw [H.len]; omega))
  refine h.mono ?_
  rintro e w' ⟨rfl, k⟩
  refine ⟨?_, k⟩
  congr 2
  unfold Obol.wordAt
  omega

theorem bFirst (w : World) :
    Calls Tryd.prog 40 #[] w fun e w' => e = .returned (.agg (u32s Obol.firstL)) ∧ Below w.heap.size w w' := by
  go_enter Tryd.func40, Tryd.ntmps40
  go_wp2_with fail
  refine bodyPost_ret (v := .agg (u32s Obol.firstL)) (results_row rfl _ rfl (Row.new w (u32s Obol.firstL) 68) Tryd.underlying68 rfl (by kernel_rfl)) rfl ⟨rfl, ?_⟩
  exact bAlloc (Below.refl _ _) _

end Go.Proofs.YtiffendfojhapaaDoor
