import Derived.Test.YtcdfpceagobicaaRows
import Derived.Test.YtcdfpceagobicaaLwrites
import Derived.ProofKit
import Derived.OpenShut
import Derived.Lib.SmallJoins
/-
  PROVED: the law 'obol/obollaw07.EdwardsWrites' returns true at every input, and every argument reads behind the call as it read before. No condition.
-/
namespace Go.Proofs.Ytcdfpceagobicaa.edwardsWrites
open Go.ChangeShapes Go.WideShapes Go.ChangeAt Go.RowKit Go.Joins
set_option linter.unusedVariables false
theorem own : ownKnob Try.prog.godebug = none := by kernel_rfl
theorem cellsEd : Try.prog.cellsOf 26 = 2 := by kernel_rfl
set_option maxRecDepth 100000 in
theorem lifted (os : Os) (started : os.Started) (H : Type) (enc : TypeId × Value → H) :
    ReturnsInHanded {} Try.checked os 4 .any (Rows.edwardsWritesSpec.pre6 enc Try.prog Try.f4 Rows.edwardsWritesRow.domain false) (Rows.edwardsWritesSpec.post enc Try.prog Try.f4 false true false false) := by
  refine returnsInHanded_of_change (C := Try.checked) own started (by kernel_rfl) Try.func4
    (ChangeSpec.witness6 (enc := enc) (C := Try.checked) false ⟨#[], #[.agg #[.int .u64 0, .int .u64 0]], []⟩ 8 (by kernel_rfl) (by kernel_rfl) (by kernel_rfl) (by kernel_rfl)) ?_
  intro W base args ds gs before hval0 hW hcnd _
  have hval : ∀ (j : Nat) t v, Try.f4.params[j]? = some t → args[j]? = some v → Value.okWide Try.prog W .any base t v := hval0
  have hW' := hW
  obtain ⟨p, q, hA0, hV, rfl, hfz, hnd⟩ := hW
  have hA : DataW.TrodAll enc Try.prog W 0 (fun _ => true) true Try.f4.params.toList args.toList ds p := hA0
  rw [Try.params4] at hA hval
  obtain ⟨v0, vs0, d0, ds0, p0, q0, hargs, rfl, rfl, h0, r0⟩ := trodAll_cons hA
  obtain ⟨rfl, rfl, rfl⟩ := trodAll_nil r0
  obtain rfl : args = #[v0] := by cases args; simp_all
  obtain ⟨rfl, rfl⟩ := trodVars_none hV
  obtain ⟨c0, e0, y0, z0, m0, rfl, rfl, rfl, hy0, hz0⟩ := open_agg2 Try.underlying26 (by kernel_rfl) cellsEd (hval 0 26 v0 rfl rfl) h0
  obtain ⟨a0, g0, rfl, wa0⟩ := DataW.trod_int Try.underlying24 hy0
  obtain ⟨b0, g0', rfl, wb0⟩ := DataW.trod_int Try.underlying24 hz0
  simp at g0 g0'
  subst g0 g0'
  clear hA0 hval0
  simp only [List.append_nil] at hW'
  have na0 := bounds_u64 wa0
  have nb0 := bounds_u64 wb0
  have reads0 : ∀ (W' : World) (sp : Nat → Bool), DataW.Trod enc Try.prog W' 0 sp true 26 (.agg #[.int .u64 a0, .int .u64 b0]) (.agg [.lit (.int .u64 a0), .lit (.int .u64 b0)]) [] := fun W' sp =>
    shut_agg2 (y0 := (.lit (.int .u64 a0), [])) (y1 := (.lit (.int .u64 b0), [])) Try.underlying26 (by kernel_rfl) cellsEd ⟨1, by simp [DataW.trod, Try.underlying24, wa0]⟩ ⟨1, by simp [DataW.trod, Try.underlying24, wb0]⟩
  refine (walkWrites a0 b0 na0.1 nb0.1 W).mono fun e W' ⟨he, hb⟩ => ?_
  subst he
  exact ⟨_, rfl, _, _, _, [], [], [], hW', (trodAll_cons_mk (shut_bool Try.underlying4 _) trodAll_mk0), (trodAll_cons_mk (reads0 _ _) trodAll_mk0), rfl, hb.frame _, fun h => by cases h⟩

theorem over : Rows.edwardsWritesRow.holds Try.pinned (OpenSpec.ofChange Rows.edwardsWritesSpec) :=
  OpenClaim.holds_of_wide 4 Try.f4 rfl rfl rfl rfl rfl rfl rfl ⟨rfl, rfl, rfl, rfl, rfl⟩ rfl rfl rfl rfl rfl (by kernel_rfl) Try.func4 (by kernel_rfl)
    (of_decide_eq_true (by kernel_rfl)) (by unfold Func.isWrapper; first | (rw [if_pos (by decide +kernel)]; kernel_rfl) | (rw [if_neg (by decide +kernel)]; exact ⟨rfl, rfl⟩))
    (fun os started H enc _ => lifted os started H enc)
end Go.Proofs.Ytcdfpceagobicaa.edwardsWrites
namespace Go.Proofs.Ytcdfpceagobicaa
theorem edwardsWrites_holds : Rows.EdwardsWritesSaid := edwardsWrites.over
#print axioms edwardsWrites_holds
end Go.Proofs.Ytcdfpceagobicaa
