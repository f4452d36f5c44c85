import Derived.Test.YtallfmiikjmgaaaZWlimbs
import Derived.Test.YtallfmiikjmgaaaMB
set_option linter.unusedVariables false
set_option linter.unusedSimpArgs false
/- Plain: the product of two numbers in limbs; the carries. Walks' helps. -/
namespace Obol
def mstep (a r d : List Nat) (i k : Nat) : List Nat :=
  if i + k < 5 then d.set (i + k) (d.getD (i + k) 0 + a.getD i 0 * r.getD k 0) else d.set (i + k - 5) (d.getD (i + k - 5) 0 + 5 * (a.getD i 0 * r.getD k 0))
def mrow (a r d : List Nat) (i : Nat) : Nat → List Nat
  | 0 => d
  | k + 1 => mstep a r (mrow a r d i k) i k
def mall (a r : List Nat) : Nat → List Nat
  | 0 => [0, 0, 0, 0, 0]
  | i + 1 => mrow a r (mall a r i) i 5
def cpass (d : List Nat) : Nat → List Nat × Nat
  | 0 => (d, 0)
  | j + 1 => ((cpass d j).1.set j (((cpass d j).1.getD j 0 + (cpass d j).2) % 67108864), ((cpass d j).1.getD j 0 + (cpass d j).2) / 67108864)
def fold1 (d : List Nat) : List Nat := (cpass d 5).1.set 0 ((cpass d 5).1.getD 0 0 + 5 * (cpass d 5).2)
def timesL (a r : List Nat) : List Nat := fold1 (fold1 (mall a r 5))
/-- Five limbs, none above a bound. -/
structure LB (M : Nat) (d : List Nat) : Prop where
  len : d.length = 5
  le : ∀ i, d.getD i 0 ≤ M
theorem LB.put {M N : Nat} {d : List Nat} (h : LB M d) (hN : M ≤ N) (i v : Nat) (hv : v ≤ N) : LB N (d.set i v) := ⟨by rw [List.length_set]; exact h.len, fun j => by
  rw [List.getD_eq_getElem?_getD, List.getElem?_set]
  split
  · split
    · exact hv
    · exact Nat.zero_le _
  · rw [← List.getD_eq_getElem?_getD]; exact Nat.le_trans (h.le j) hN⟩
theorem mul_le {x y : Nat} (hx : x ≤ 268435456) (hy : y ≤ 67108863) : x * y ≤ 18014398241046528 := Nat.mul_le_mul hx hy
theorem mstep_b {a r d : List Nat} (ha : LB 268435456 a) (hr : LB 67108863 r) {c : Nat} (h : LB (c * 90071992547409920) d) (i k : Nat) : LB ((c + 1) * 90071992547409920) (mstep a r d i k) := by
  have hm := mul_le (ha.le i) (hr.le k)
  unfold mstep
  split
  · exact h.put (by omega) _ _ (by have := h.le (i + k); omega)
  · exact h.put (by omega) _ _ (by have := h.le (i + k - 5); omega)
theorem mrow_b {a r d : List Nat} (ha : LB 268435456 a) (hr : LB 67108863 r) {c : Nat} (h : LB (c * 90071992547409920) d) (i : Nat) : ∀ k, LB ((c + k) * 90071992547409920) (mrow a r d i k)
  | 0 => h
  | k + 1 => mstep_b ha hr (mrow_b ha hr h i k) i k
theorem zero5_b : LB 0 [0, 0, 0, 0, 0] := ⟨rfl, fun i => by match i with | 0 => decide | 1 => decide | 2 => decide | 3 => decide | 4 => decide | n + 5 => simp⟩
theorem mall_b {a r : List Nat} (ha : LB 268435456 a) (hr : LB 67108863 r) : ∀ i, LB (5 * i * 90071992547409920) (mall a r i)
  | 0 => by show LB (5 * 0 * 90071992547409920) [0, 0, 0, 0, 0]; exact zero5_b
  | i + 1 => mrow_b ha hr (mall_b ha hr i) i 5
def foldN (d : List Nat) : Nat → List Nat
  | 0 => d
  | n + 1 => fold1 (foldN d n)
theorem cpass_b {d : List Nat} {M : Nat} (h : LB M d) (hM : 67108864 ≤ M) (hM2 : M ≤ 3000000000000000000) : ∀ j, LB M (cpass d j).1 ∧ (cpass d j).2 ≤ 50000000000
  | 0 => ⟨h, Nat.zero_le _⟩
  | j + 1 => by
    obtain ⟨h1, h2⟩ := cpass_b h hM hM2 j
    have h3 := h1.le j
    refine ⟨h1.put (Nat.le_refl _) _ _ ?_, ?_⟩
    · have := Nat.mod_lt ((cpass d j).1.getD j 0 + (cpass d j).2) (show 0 < 67108864 by decide)
      omega
    · show ((cpass d j).1.getD j 0 + (cpass d j).2) / 67108864 ≤ 50000000000
      omega
theorem fold1_b {d : List Nat} {M : Nat} (h : LB M d) (hM : 67108864 ≤ M) (hM2 : M ≤ 3000000000000000000) : LB (M + 250000000000) (fold1 d) := by
  obtain ⟨h1, h2⟩ := cpass_b h hM hM2 5
  exact h1.put (by omega) _ _ (by have := h1.le 0; omega)
theorem foldN_b {d : List Nat} (h : LB 2251799813685248000 d) : ∀ n, n ≤ 2 → LB (2251799813685248000 + n * 250000000000) (foldN d n)
  | 0, _ => h
  | n + 1, hn => by
    have h1 := fold1_b (foldN_b h n (by omega)) (by omega) (by omega)
    rw [show 2251799813685248000 + (n + 1) * 250000000000 = 2251799813685248000 + n * 250000000000 + 250000000000 by omega]
    exact h1
/-- What five limbs say. -/
def valL (d : List Nat) : Nat := d.getD 0 0 + d.getD 1 0 * 67108864 + d.getD 2 0 * 4503599627370496 + d.getD 3 0 * 302231454903657293676544 + d.getD 4 0 * 20282409603651670423947251286016
end Obol
namespace Go.Proofs.Ytallfmiikjmgaaa
open Go.RowKit

theorem index_agg5 {P : Program} (t e : TypeId) (N : Nat) (L : List Nat) (H : L.length = N) (ht : P.underlying t = some (.array N e)) (hu : P.underlying e = some (.int .u64)) (he : (P.info? e).map (fun i => (i.zero, i.size, i.bytes)) = some (some (.int .u64 0), 1, 8)) {i : Int} (h0 : 0 ≤ i) (h1 : i < N) (W : World) :
    (Instr.index t (.agg (u64s L)) (.int .i64 i)).run P W = .ok (.int .u64 ((L.getD i.toNat 0 : Nat) : Int)) W := by
  obtain ⟨q, hi, _, hs, _⟩ : ∃ q, P.info? e = some q ∧ q.zero = some (.int .u64 0) ∧ q.size = 1 ∧ q.bytes = 8 := by
    cases hq : P.info? e with
    | none => rw [hq] at he; simp at he
    | some q => rw [hq] at he; simp at he; exact ⟨q, rfl, he.1, he.2.1, he.2.2⟩
  have hx := u64s_get (L := L) i.toNat (by omega)
  simp [Instr.index, asIntOf, isAgg, run_underlying ht, run_underlying hu, Go.sizeOf, typeInfo, hi, hs, Result.andThen, h0, h1, part, hx]
theorem undU : Try.prog.underlying 36 = some (.int .u64) := by kernel_rfl
theorem infoU : (Try.prog.info? 36).map (fun i => (i.zero, i.size, i.bytes)) = some (some (.int .u64 0), 1, 8) := by kernel_rfl

end Go.Proofs.Ytallfmiikjmgaaa
