import Derived.Test.YtcdfpceagobicaaRows
import Derived.Test.YtcdfpceagobicaaLstays7T
import Derived.ProofKit
import Derived.OpenShut
import Derived.SizedLaws
import Derived.Lib.SmallJoins
import Derived.Test.YtcdfpceagobicaaView
/-
  PROVED: the law 'obol/obollaw07.EdwardsStays' returns true at every input, and every argument reads behind the call as it read before. No condition.
-/
namespace Go.Proofs.Ytcdfpceagobicaa.edwardsStays
open Go.ChangeShapes Go.WideShapes Go.ChangeAt Go.RowKit Go.Joins
set_option linter.unusedVariables false
theorem own : ownKnob Try.prog.godebug = none := by kernel_rfl
theorem cellsEd : Try.prog.cellsOf 26 = 2 := by kernel_rfl
set_option maxRecDepth 100000 in
theorem lifted (os : Os) (started : os.Started) (H : Type) (enc : TypeId × Value → H) :
    ReturnsInHanded {} Try.checked os 5 .any (Rows.edwardsStaysSpec.pre6 enc Try.prog Try.f5 Rows.edwardsStaysRow.domain false) (Rows.edwardsStaysSpec.post enc Try.prog Try.f5 false true false false) := by
  refine returnsInHanded_of_change_sized (C := Try.checked) own started (by kernel_rfl) Try.func5
    (ChangeSpec.witness6 (enc := enc) (C := Try.checked) false ⟨#[], #[.agg #[.int .u64 0, .int .u64 0], .slice none 0 0], []⟩ 8 (by kernel_rfl) (by kernel_rfl) (by kernel_rfl) (by kernel_rfl)) ?_
  intro W base args ds gs before hval0 hW _ hsz0 _
  have hval : ∀ (j : Nat) t v, Try.f5.params[j]? = some t → args[j]? = some v → Value.okWide Try.prog W .any base t v := hval0
  have hW' := hW
  obtain ⟨p, q, hA0, hV, rfl, hfz, hnd⟩ := hW
  have hA : DataW.TrodAll enc Try.prog W 0 (fun _ => true) true Try.f5.params.toList args.toList ds p := hA0
  have hsz : (DataW.weightsEach Try.prog (Try.f5.params.toList ++ Rows.edwardsStaysSpec.plain.varTypes Try.prog) (ds ++ gs)).all (· ≤ reachBytes) = true := hsz0
  rw [Try.params5] at hA hval hsz
  obtain ⟨v0, vs0, d0, ds0, p0, q0, hargs, rfl, rfl, h0, r0⟩ := trodAll_cons hA
  obtain ⟨v1, vs1, d1, ds1, p1, q1, rfl, rfl, rfl, h1, r1⟩ := trodAll_cons r0
  obtain ⟨rfl, rfl, rfl⟩ := trodAll_nil r1
  obtain rfl : args = #[v0, v1] := by cases args; simp_all
  obtain ⟨rfl, rfl⟩ := trodVars_none hV
  obtain ⟨c0, e0, y0, z0, m0, rfl, rfl, rfl, hy0, hz0⟩ := open_agg2 Try.underlying26 (by kernel_rfl) cellsEd (hval 0 26 v0 rfl rfl) h0
  obtain ⟨a0, g0, rfl, wa0⟩ := DataW.trod_int Try.underlying24 hy0
  obtain ⟨b0, g0', rfl, wb0⟩ := DataW.trod_int Try.underlying24 hz0
  simp at g0 g0'
  subst g0 g0'
  obtain ⟨a1, len1, cap1, rfl⟩ := okWide_slice Try.underlying22 (hval 1 22 v1 rfl rfl)
  obtain ⟨L1, x1, hl1, hc1, hn1, hb1⟩ := viewB h1
  have hs1 : cap1 ≤ 140737488351232 := by
    rcases viewSize h1 with ⟨_, h0⟩ | ⟨es, sp, rfl, h0⟩
    · omega
    · have := sized_slice hsz (j := 1) (t := 22) (e := 5) rfl rfl Try.underlying22
      rw [bytesU8] at this
      simp only [reachBytes] at this
      omega
  clear hA0 hval0
  simp only [List.append_nil] at hW'
  have na0 := bounds_u64 wa0
  have nb0 := bounds_u64 wb0
  have reads0 : ∀ (W' : World) (sp : Nat → Bool), DataW.Trod enc Try.prog W' 0 sp true 26 (.agg #[.int .u64 a0, .int .u64 b0]) (.agg [.lit (.int .u64 a0), .lit (.int .u64 b0)]) [] := fun W' sp =>
    shut_agg2 (y0 := (.lit (.int .u64 a0), [])) (y1 := (.lit (.int .u64 b0), [])) Try.underlying26 (by kernel_rfl) cellsEd ⟨1, by simp [DataW.trod, Try.underlying24, wa0]⟩ ⟨1, by simp [DataW.trod, Try.underlying24, wb0]⟩
  refine (walkStaysE W a0 b0 a1 len1 cap1 L1 x1 hl1 hs1 hn1 hb1 na0.1 nb0.1).mono fun e W' ⟨he, hb⟩ => ?_
  subst he
  have hlt1 : ∀ x ∈ p1, x.block < W.heap.size := fun x hx => by have := hW'.lt x (by simp [hx]); simpa using this
  exact ⟨_, rfl, _, _, _, [], _, [], hW', (trodAll_cons_mk (shut_bool Try.underlying4 _) trodAll_mk0), (trodAll_cons_mk (reads0 _ _) (trodAll_cons_mk (Below.trod laidOutA readB (of_decide_eq_true (by kernel_rfl)) h1 hb hlt1) trodAll_mk0)), rfl, hb.frame _, fun h => by cases h⟩

theorem over : Rows.edwardsStaysRow.holds Try.pinned (OpenSpec.ofChange Rows.edwardsStaysSpec) :=
  OpenClaim.holds_of_wide 5 Try.f5 rfl rfl rfl rfl rfl rfl rfl ⟨rfl, rfl, rfl, rfl, rfl⟩ rfl rfl rfl rfl rfl (by kernel_rfl) Try.func5 (by kernel_rfl)
    (of_decide_eq_true (by kernel_rfl)) (by unfold Func.isWrapper; first | (rw [if_pos (by decide +kernel)]; kernel_rfl) | (rw [if_neg (by decide +kernel)]; exact ⟨rfl, rfl⟩))
    (fun os started H enc _ => lifted os started H enc)
end Go.Proofs.Ytcdfpceagobicaa.edwardsStays
namespace Go.Proofs.Ytcdfpceagobicaa
theorem edwardsStays_holds : Rows.EdwardsStaysSaid := edwardsStays.over
#print axioms edwardsStays_holds
end Go.Proofs.Ytcdfpceagobicaa
