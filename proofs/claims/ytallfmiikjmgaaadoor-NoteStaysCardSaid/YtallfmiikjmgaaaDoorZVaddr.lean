import Derived.Test.YtallfmiikjmgaaaDoorMC
import Derived.Lib.SmallJoins
set_option linter.unusedVariables false
set_option linter.unusedSimpArgs false
/- Arguments of the types api.Addr and api.Sealed, opened and shut. -/
namespace Go.Proofs.YtallfmiikjmgaaaDoor
open Go.ChangeShapes Go.WideShapes Go.ChangeAt Go.RowKit Go.Joins

theorem cellsAddr3 : Tryd.prog.cellsOf 31 = 3 := by kernel_rfl
theorem cellsSealed3 : Tryd.prog.cellsOf 44 = 3 := by kernel_rfl
theorem cellsE2 : Tryd.prog.cellsOf 29 = 2 := by kernel_rfl
theorem cellsU1 : Tryd.prog.cellsOf 22 = 1 := by kernel_rfl
theorem cellsS1 : Tryd.prog.cellsOf 42 = 1 := by kernel_rfl
set_option maxRecDepth 20000 in
theorem open_addr {H : Type} {enc : TypeId × Value → H} {W : World} {base b0 : Nat} {spare : Nat → Bool} {held : Bool} {r : Reach} {v : Value} {d : DataW H} {p : List MemPlace}
    (hv : Value.okWide Tryd.prog W r b0 31 v) (h : DataW.Trod enc Tryd.prog W base spare held 31 v d p) :
    ∃ a b c : Int, v = .agg #[.int .u64 a, .int .u64 b, .int .u64 c] ∧ d = .agg [.lit (.int .u64 a), .agg [.lit (.int .u64 b), .lit (.int .u64 c)]] ∧ p = [] ∧
      (Lit.int .u64 a).wf = true ∧ (Lit.int .u64 b).wf = true ∧ (Lit.int .u64 c).wf = true := by
  obtain ⟨cs, rfl, hsz⟩ := okWide_struct Tryd.underlying31 hv
  rw [cellsAddr3] at hsz
  obtain ⟨c0, c1, c2, rfl⟩ := array3 hsz
  obtain ⟨fuel, hf⟩ := h
  obtain ⟨y0, y1, n, hx, _, h0, h1⟩ := trod_struct2 Tryd.underlying31 hf
  simp only [Value.cells, cellsE2, cellsU1, List.drop_zero, List.drop_succ_cons, List.take_succ_cons, List.take_zero, List.drop_nil, List.take_nil] at h0 h1
  obtain ⟨z0, z1, m, hz, _, k0, k1⟩ := trod_struct2 Tryd.underlying29 h1
  simp only [cellsU1, List.drop_zero, List.drop_succ_cons, List.take_succ_cons, List.take_zero, List.drop_nil, List.take_nil] at k0 k1
  obtain ⟨a, ga, ya, wa⟩ := DataW.trod_int Tryd.underlying22 h0
  obtain ⟨b, gb, yb, wb⟩ := DataW.trod_int Tryd.underlying22 k0
  obtain ⟨c, gc, yc, wc⟩ := DataW.trod_int Tryd.underlying22 k1
  simp at ga gb gc
  subst ga gb gc
  subst ya yb yc hz
  simp only [Prod.mk.injEq] at hx
  exact ⟨a, b, c, rfl, by rw [hx.1], by rw [hx.2]; rfl, wa, wb, wc⟩
set_option maxRecDepth 20000 in
theorem shut_addr {H : Type} {enc : TypeId × Value → H} {W : World} {base : Nat} {spare : Nat → Bool} {held : Bool} {a b c : Int} (wa : (Lit.int .u64 a).wf = true) (wb : (Lit.int .u64 b).wf = true) (wc : (Lit.int .u64 c).wf = true) :
    DataW.Trod enc Tryd.prog W base spare held 31 (.agg #[.int .u64 a, .int .u64 b, .int .u64 c]) (.agg [.lit (.int .u64 a), .agg [.lit (.int .u64 b), .lit (.int .u64 c)]]) [] := by
  have i0 := trod_int_mk (enc := enc) (P := Tryd.prog) (w := W) (base := base) (spare := spare) (held := held) 1 Tryd.underlying22 wa
  have i1 := trod_int_mk (enc := enc) (P := Tryd.prog) (w := W) (base := base) (spare := spare) (held := held) 0 Tryd.underlying22 wb
  have i2 := trod_int_mk (enc := enc) (P := Tryd.prog) (w := W) (base := base) (spare := spare) (held := held) 0 Tryd.underlying22 wc
  have e := trod_struct2_mk (enc := enc) (P := Tryd.prog) (w := W) (base := base) (spare := spare) (held := held) (n := 1) (cs := [.int .u64 b, .int .u64 c]) (y0 := (.lit (.int .u64 b), [])) (y1 := (.lit (.int .u64 c), [])) Tryd.underlying29 (by rw [cellsE2]; rfl) (by rw [cellsU1]; exact i1) (by rw [cellsU1]; exact i2)
  have s := trod_struct2_mk (enc := enc) (P := Tryd.prog) (w := W) (base := base) (spare := spare) (held := held) (n := 2) (cs := [.int .u64 a, .int .u64 b, .int .u64 c]) (y0 := (.lit (.int .u64 a), [])) (y1 := (.agg [.lit (.int .u64 b), .lit (.int .u64 c)], [])) Tryd.underlying31 (by rw [cellsAddr3]; rfl) (by rw [cellsU1]; exact i0) (by rw [cellsE2]; exact e)
  exact ⟨3, by simpa [Value.cells] using s⟩
set_option maxRecDepth 20000 in
theorem open_sealed {H : Type} {enc : TypeId × Value → H} {W : World} {b0 : Nat} {r : Reach} {v : Value} {d : DataW H} {p : List MemPlace}
    (hv : Value.okWide Tryd.prog W r b0 44 v) (h : DataW.Trod enc Tryd.prog W 0 (fun _ => true) true 44 v d p) :
    ∃ (a b : Int) (ao : Option Addr) (len cap : Nat) (d2 : DataW H), v = .agg #[.int .u64 a, .int .u64 b, .slice ao len cap] ∧ 0 ≤ a ∧ 0 ≤ b ∧ DataW.Trod enc Tryd.prog W 0 (fun _ => true) true 42 (.slice ao len cap) d2 p := by
  obtain ⟨cs, rfl, hsz⟩ := okWide_struct Tryd.underlying44 hv
  rw [cellsSealed3] at hsz
  obtain ⟨c0, c1, c2, rfl⟩ := array3 hsz
  obtain ⟨fuel, hf⟩ := h
  obtain ⟨y0, y1, n, hx, _, h0, h1⟩ := trod_struct2 Tryd.underlying44 hf
  simp only [Value.cells, cellsE2, cellsS1, List.drop_zero, List.drop_succ_cons, List.take_succ_cons, List.take_zero, List.drop_nil, List.take_nil] at h0 h1
  obtain ⟨z0, z1, m, hz, _, k0, k1⟩ := trod_struct2 Tryd.underlying29 h0
  simp only [cellsU1, List.drop_zero, List.drop_succ_cons, List.take_succ_cons, List.take_zero, List.drop_nil, List.take_nil] at k0 k1
  obtain ⟨a, ga, ya, wa⟩ := DataW.trod_int Tryd.underlying22 k0
  obtain ⟨b, gb, yb, wb⟩ := DataW.trod_int Tryd.underlying22 k1
  simp at ga gb
  subst ga gb
  subst ya yb hz
  simp only [Prod.mk.injEq] at hx
  have hp : p = y1.2 := by rw [hx.2]; rfl
  have hsl : ∃ ao len cap, c2 = .slice ao len cap := by
    rcases open_ints Tryd.underlying42 Tryd.underlying5 cellsU8 h1 with ⟨hcs, _⟩ | ⟨_, _, _, _, hcs, _⟩
    · simp at hcs
      exact ⟨_, _, _, hcs⟩
    · simp at hcs
      exact ⟨_, _, _, hcs⟩
  obtain ⟨ao, len, cap, rfl⟩ := hsl
  have na := bounds_u64 wa
  have nb := bounds_u64 wb
  exact ⟨a, b, ao, len, cap, y1.1, rfl, na.1, nb.1, n, by rw [hp]; simpa [Value.cells] using h1⟩
theorem readSe : Tryd.prog.readableRec 44 = true := of_decide_eq_true (by kernel_rfl)

end Go.Proofs.YtallfmiikjmgaaaDoor
