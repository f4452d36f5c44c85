import Derived.Test.YtcdfpceagobicaaDoorWine
import Derived.Test.YtcdfpceagobicaaDoorWside
import Derived.Test.YtcdfpceagobicaaDoorOrder
/- Walks: package edwards: sums and multiples told as points. -/
namespace Go.Proofs.YtcdfpceagobicaaDoor
open Go.RowKit

abbrev ptV (p : Obol.Pt) : Value := edV ((p.x.val : Nat) : Int) ((p.y.val : Nat) : Int)
theorem gAdd (X Y X' Y' : Int) (hX : 0 ≤ X) (hY : 0 ≤ Y) (hX' : 0 ≤ X') (hY' : 0 ≤ Y') (w : World) :
    Calls Tryd.prog 14 #[edV X Y, edV X' Y'] w fun e w' => e = .returned (ptV ((Obol.Pnt.of (X.toNat, Y.toNat)).add (Obol.Pnt.of (X'.toNat, Y'.toNat)))) ∧ Below w.heap.size w w' := by
  have h := eAdd X Y X' Y' hX hY hX' hY' w
  rw [Obol.sure_n, Obol.sure_n, Obol.sum_n] at h
  exact h
theorem gMul (X Y k : Int) (hX : 0 ≤ X) (hY : 0 ≤ Y) (hk : 0 ≤ k) (hk1 : k ≤ 18446744073709551615) (w : World) :
    Calls Tryd.prog 15 #[edV X Y, .int .u64 k] w fun e w' => e = .returned (ptV (Obol.Pnt.smul k.toNat (Obol.Pnt.of (X.toNat, Y.toNat)))) ∧ Below w.heap.size w w' := by
  have h := eMulK X Y k hX hY hk hk1 w
  rw [Obol.smulN_eq] at h
  exact h
/-- A point's numbers. -/
theorem coords (q : Obol.Pt) : ∃ x y : Int, 0 ≤ x ∧ 0 ≤ y ∧ x < 288230376287764481 ∧ y < 288230376287764481 ∧ ptV q = edV x y ∧ Obol.Pnt.of (x.toNat, y.toNat) = q := by
  have h1 : q.x.val < 288230376287764481 := Nat.lt_of_lt_of_eq q.x.isLt Obol.R_def
  have h2 : q.y.val < 288230376287764481 := Nat.lt_of_lt_of_eq q.y.isLt Obol.R_def
  refine ⟨_, _, ?_, ?_, ?_, ?_, rfl, ?_⟩
  · omega
  · omega
  · omega
  · omega
  · rw [Int.toNat_natCast, Int.toNat_natCast]
    exact Obol.of_n q
theorem zeroV : ptV (Obol.Pnt.zero : Obol.Pt) = edV 0 1 := by
  have h := Obol.zero_n
  have h1 : ((Obol.Pnt.zero : Obol.Pt).x.val) = 0 := congrArg Prod.fst h
  have h2 : ((Obol.Pnt.zero : Obol.Pt).y.val) = 1 := congrArg Prod.snd h
  show edV _ _ = _
  rw [h1, h2]
  rfl
/-- A point is 0 where its numbers are. -/
theorem zero_of {q : Obol.Pt} {x y : Int} (h : ptV q = edV x y) : q = Obol.Pnt.zero ↔ (x = 0 ∧ y = 1) := by
  have h0 := zeroV
  constructor
  · rintro rfl
    rw [h0] at h
    simp only [Value.agg.injEq, Array.mk.injEq, List.cons.injEq, Value.int.injEq, true_and, and_true] at h
    exact ⟨h.1.symm, h.2.symm⟩
  · rintro ⟨rfl, rfl⟩
    rw [← h0] at h
    simp only [Value.agg.injEq, Array.mk.injEq, List.cons.injEq, Value.int.injEq, true_and, and_true] at h
    apply Obol.Pnt.n_inj
    show (_, _) = (_, _)
    rw [Prod.mk.injEq]
    exact ⟨Int.ofNat_inj.1 h.1, Int.ofNat_inj.1 h.2⟩
theorem gIn (x y : Int) (x0 : 0 ≤ x) (y0 : 0 ≤ y) (q : Obol.Pt) (hv : ptV q = edV x y) (hS : Obol.Pnt.smul 72057593894066549 q = Obol.Pnt.zero) (w : World) :
    Calls Tryd.prog 17 #[edV x y] w fun e w' => e = .returned (.bool true) ∧ Below w.heap.size w w' := by
  have h := eIn x y x0 y0 w
  simp only [Value.agg.injEq, Array.mk.injEq, List.cons.injEq, Value.int.injEq, true_and, and_true] at hv
  have hn : (x.toNat, y.toNat) = q.n := by
    show _ = (q.x.val, q.y.val)
    rw [Prod.mk.injEq]
    omega
  have hi : inN (x.toNat, y.toNat) = true := by
    unfold inN
    rw [hn, Obol.pt_isN, Obol.smulN_eq, Obol.of_n, hS, Obol.zero_n]
    rfl
  rw [hi] at h
  exact h
theorem pt_pos {q : Obol.Pt} {x y : Int} (h : ptV q = edV x y) : 0 ≤ x ∧ 0 ≤ y := by
  simp only [Value.agg.injEq, Array.mk.injEq, List.cons.injEq, Value.int.injEq, true_and, and_true] at h
  omega
theorem S_lit : (72057593894066549 : Nat) = Obol.S := by decide +kernel
theorem killed4 (p : Obol.Pt) : Obol.Pnt.smul 72057593894066549 (Obol.Pnt.smul 4 p) = Obol.Pnt.zero := by
  rw [← Obol.Pnt.smul_mul, S_lit, Nat.mul_comm]
  exact Obol.killed p
theorem killedS (p : Obol.Pt) : Obol.Pnt.smul 4 (Obol.Pnt.smul 72057593894066549 p) = Obol.Pnt.zero := by
  rw [← Obol.Pnt.smul_mul, S_lit]
  exact Obol.killed p

end Go.Proofs.YtcdfpceagobicaaDoor
