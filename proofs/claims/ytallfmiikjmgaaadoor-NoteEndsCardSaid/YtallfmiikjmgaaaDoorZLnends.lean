import Derived.Test.YtallfmiikjmgaaaDoorMJ
set_option linter.unusedVariables false
set_option linter.unusedSimpArgs false
/- Walks: layer 17: ends. -/
namespace Go.Proofs.YtallfmiikjmgaaaDoor
open Go.RowKit

set_option maxRecDepth 8000 in
set_option maxHeartbeats 2000000 in
theorem walkEnds (w : World) (hG0 : RowsAt w) (a b p : Int) (a0 : 0 ≤ a) (a1 : a ≤ 18446744073709551615) (b0 : 0 ≤ b) (b1 : b ≤ 18446744073709551615) (p0 : -9223372036854775808 ≤ p) (p1 : p ≤ 9223372036854775807) :
    Calls Tryd.prog 9 #[.int .u64 a, .int .u64 b, .int .i64 p] w fun e w' => e = .returned (.bool true) ∧ Below w.heap.size w w' := by
  have hG := Lib.hid hG0
  clear hG0
  have hE := fun W => eqErrC W 1 1
  by_cases h : a < 288230376287764481 ∧ b < 288230376287764481 ∧ 0 ≤ p
  · obtain ⟨h1, h2, h3⟩ := h
    have cE := Lib.hid (fun w => nEndY a b p a0 b0 h1 h2 h3 p1 w)
    have cM := fun w => r10Many (some ⟨w.heap.size, 0, none⟩) 3 3 [a.toNat, b.toNat, p.toNat] rfl (by omega) (w.alloc (.cells #[.int .u64 a, .int .u64 b, .int .u64 p] 22)) (slU3 a0 b0 h3 (Row.new w #[.int .u64 a, .int .u64 b, .int .u64 p] 22))
    obtain ⟨n, hn⟩ : ∃ n : Int, ((Obol.manyN [a.toNat, b.toNat, p.toNat] : Nat) : Int) = n := ⟨_, rfl⟩
    rw [hn] at cE cM
    replace cM := Lib.hid cM
    have hw : IntKind.u64.wrap p = p := by rw [IntKind.wrap_u64]; omega
    have g1 : ¬ 288230376287764481 ≤ a := by omega
    have g2 : ¬ 288230376287764481 ≤ b := by omega
    have g3 : ¬ p < 0 := by omega
    clear hn
    go_enter Tryd.func9, Tryd.ntmps9
    go_wp2_with fail
    refine (up17 _ hG.out).mono ?_
    rintro e' w1 ⟨rfl, hb1⟩
    have B1 := Lib.hid hb1
    clear hb1
    go_wp2_with fail
    refine (cE.out _).mono ?_
    rintro e' w2 ⟨rfl, hb2⟩
    have B2 := Lib.hid (bThen B1.out hb2 B1.out.size)
    clear hb2 B1
    go_wp2_with fail
    refine (cM.out w2).mono ?_
    rintro e' w3 ⟨rfl, hb3⟩
    have B3 := Lib.hid (bThen (bAlloc B2.out (.cells #[.int .u64 a, .int .u64 b, .int .u64 p] 22)) hb3 (bAlloc B2.out (.cells #[.int .u64 a, .int .u64 b, .int .u64 p] 22)).size)
    clear hb3 B2
    go_wp2_with fail
    go_ret
    exact ⟨by simp, B3.out⟩
  · have cE := Lib.hid (fun w => nEndN a b p h w)
    by_cases g1 : 288230376287764481 ≤ a
    · clear h
      go_enter Tryd.func9, Tryd.ntmps9
      go_wp2_with fail
      refine (up17 _ hG.out).mono ?_
      rintro e' w1 ⟨rfl, hb1⟩
      have B1 := Lib.hid hb1
      clear hb1
      go_wp2_with fail
      refine (cE.out _).mono ?_
      rintro e' w2 ⟨rfl, rfl⟩
      go_wp2_with fail
      go_ret
      exact ⟨by simp, B1.out⟩
    · have g1' : a < 288230376287764481 := by omega
      by_cases g2 : 288230376287764481 ≤ b
      · clear h
        go_enter Tryd.func9, Tryd.ntmps9
        go_wp2_with fail
        refine (up17 _ hG.out).mono ?_
        rintro e' w1 ⟨rfl, hb1⟩
        have B1 := Lib.hid hb1
        clear hb1
        go_wp2_with fail
        refine (cE.out _).mono ?_
        rintro e' w2 ⟨rfl, rfl⟩
        go_wp2_with fail
        go_ret
        exact ⟨by simp, B1.out⟩
      · have g3 : p < 0 := by omega
        clear h
        go_enter Tryd.func9, Tryd.ntmps9
        go_wp2_with fail
        refine (up17 _ hG.out).mono ?_
        rintro e' w1 ⟨rfl, hb1⟩
        have B1 := Lib.hid hb1
        clear hb1
        go_wp2_with fail
        refine (cE.out _).mono ?_
        rintro e' w2 ⟨rfl, rfl⟩
        go_wp2_with fail
        go_ret
        exact ⟨by simp, B1.out⟩

end Go.Proofs.YtallfmiikjmgaaaDoor
