import Derived.Test.YtallfmiikjmgaaaDoorMC
import Derived.Lib.SmallJoins
import Derived.Deep.Strs
set_option linter.unusedVariables false
set_option linter.unusedSimpArgs false
/- Arguments of the types api.Note and api.Sealed, opened and shut. -/
namespace Go.Proofs.YtallfmiikjmgaaaDoor
open Go.ChangeShapes Go.WideShapes Go.ChangeAt Go.RowKit Go.Joins

theorem cellsNote3 : Tryd.prog.cellsOf 41 = 3 := by kernel_rfl
theorem cellsN1 : Tryd.prog.cellsOf 22 = 1 := by kernel_rfl
set_option maxRecDepth 20000 in
theorem open_note {H : Type} {enc : TypeId × Value → H} {W : World} {base b0 : Nat} {spare : Nat → Bool} {held : Bool} {r : Reach} {v : Value} {d : DataW H} {p : List MemPlace}
    (hv : Value.okWide Tryd.prog W r b0 41 v) (h : DataW.Trod enc Tryd.prog W base spare held 41 v d p) :
    ∃ a b c : Int, v = .agg #[.int .u64 a, .int .u64 b, .int .u64 c] ∧ d = .agg [.lit (.int .u64 a), .lit (.int .u64 b), .lit (.int .u64 c)] ∧ p = [] ∧
      (Lit.int .u64 a).wf = true ∧ (Lit.int .u64 b).wf = true ∧ (Lit.int .u64 c).wf = true := by
  obtain ⟨cs, rfl, hsz⟩ := okWide_struct Tryd.underlying41 hv
  rw [cellsNote3] at hsz
  obtain ⟨c0, c1, c2, rfl⟩ := array3 hsz
  obtain ⟨fuel, hf⟩ := h
  obtain ⟨y0, y1, y2, n, hx, _, k0, k1, h1⟩ := Go.Deep.trod_struct3 Tryd.underlying41 hf
  simp only [Value.cells, cellsN1, List.drop_zero, List.drop_succ_cons, List.take_succ_cons, List.take_zero, List.drop_nil, List.take_nil] at k0 k1 h1
  obtain ⟨a, ga, ya, wa⟩ := DataW.trod_int Tryd.underlying22 k0
  obtain ⟨b, gb, yb, wb⟩ := DataW.trod_int Tryd.underlying22 k1
  obtain ⟨c, gc, yc, wc⟩ := DataW.trod_int Tryd.underlying22 h1
  simp at ga gb gc
  subst ga gb gc
  subst ya yb yc
  simp only [Prod.mk.injEq] at hx
  exact ⟨a, b, c, rfl, by rw [hx.1], by rw [hx.2]; rfl, wa, wb, wc⟩
set_option maxRecDepth 20000 in
theorem shut_note {H : Type} {enc : TypeId × Value → H} {W : World} {base : Nat} {spare : Nat → Bool} {held : Bool} {a b c : Int} (wa : (Lit.int .u64 a).wf = true) (wb : (Lit.int .u64 b).wf = true) (wc : (Lit.int .u64 c).wf = true) :
    DataW.Trod enc Tryd.prog W base spare held 41 (.agg #[.int .u64 a, .int .u64 b, .int .u64 c]) (.agg [.lit (.int .u64 a), .lit (.int .u64 b), .lit (.int .u64 c)]) [] := by
  have i0 := trod_int_mk (enc := enc) (P := Tryd.prog) (w := W) (base := base) (spare := spare) (held := held) 0 Tryd.underlying22 wa
  have i1 := trod_int_mk (enc := enc) (P := Tryd.prog) (w := W) (base := base) (spare := spare) (held := held) 0 Tryd.underlying22 wb
  have i2 := trod_int_mk (enc := enc) (P := Tryd.prog) (w := W) (base := base) (spare := spare) (held := held) 0 Tryd.underlying22 wc
  have s := Go.Deep.trod_struct3_mk (enc := enc) (P := Tryd.prog) (w := W) (base := base) (spare := spare) (held := held) (n := 1) (cs := [.int .u64 a, .int .u64 b, .int .u64 c]) (y0 := (.lit (.int .u64 a), [])) (y1 := (.lit (.int .u64 b), [])) (y2 := (.lit (.int .u64 c), [])) Tryd.underlying41 (by rw [cellsNote3]; rfl) (by rw [cellsN1]; exact i0) (by rw [cellsN1]; exact i1) (by rw [cellsN1]; exact i2)
  exact ⟨2, by simpa [Value.cells] using s⟩

end Go.Proofs.YtallfmiikjmgaaaDoor
