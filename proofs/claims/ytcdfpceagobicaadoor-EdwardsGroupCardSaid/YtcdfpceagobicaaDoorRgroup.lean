import Derived.Test.YtcdfpceagobicaaDoorRows
import Derived.Test.YtcdfpceagobicaaDoorCards
import Derived.Test.YtcdfpceagobicaaDoorTie
import Derived.Test.YtcdfpceagobicaaDoorLaid
import Derived.SevenTiedAt
import Derived.LaidMore
import Derived.Stop.Joined
import Derived.Test.YtcdfpceagobicaaDoorLgroup
import Derived.ProofKit
import Derived.OpenShut
import Derived.Lib.SmallJoins
/-
  PROVED: the law 'obol/obollaw07.EdwardsGroup' returns true at every input, and every argument reads behind the call as it read before. No condition.
-/
namespace Go.Proofs.YtcdfpceagobicaaDoor.edwardsGroup
open Go.ChangeShapes Go.WideShapes Go.ChangeAt Go.RowKit Go.Joins
set_option linter.unusedVariables false
theorem own : ownKnob Tryd.prog.godebug = none := by kernel_rfl
theorem cellsEd : Tryd.prog.cellsOf 38 = 2 := by kernel_rfl
set_option maxRecDepth 100000 in
theorem lifted (os : Os) (started : os.Started) (H : Type) (enc : TypeId × Value → H) :
    ReturnsInHanded {} Tryd.checked os 7 .any (fun w args => (Rows.edwardsGroupSpec.pre enc Tryd.prog Tryd.f7 [] false w args ∧ laidMetH Tryd.prog laidB w) ∧ sizedMet enc Tryd.prog Tryd.f7 (OpenSpec.ofChange Rows.edwardsGroupSpec) false w args)
      (Rows.edwardsGroupSpec.post enc Tryd.prog Tryd.f7 false true false false) := by
  refine returnsInHanded_of_change_and (C := Tryd.checked) (X := fun w _ => laidMetH Tryd.prog laidB w) (fun _ _ _ hh h => h.of_heap hh) own started (by kernel_rfl) Tryd.func7
    (ChangeSpec.witness_shaped (enc := enc) (C := Tryd.checked) (os := os) (X := fun w _ => laidMetH Tryd.prog laidB w) false (World.doorLaid Tryd.prog 400 os) #[.agg #[.int .u64 0, .int .u64 0], .agg #[.int .u64 0, .int .u64 0], .agg #[.int .u64 0, .int .u64 0], .int .u64 0, .int .u64 0] 8 rfl (World.shaped_of_RefB (by kernel_rfl) (by kernel_rfl)) (by kernel_rfl) (by kernel_rfl) (by kernel_rfl) (door_met os _)) ?_
  intro W base args ds gs before hval0 hW _ hsz0 hL _
  have hval : ∀ (j : Nat) t v, Tryd.f7.params[j]? = some t → args[j]? = some v → Value.okWide Tryd.prog W .any base t v := hval0
  have hW' := hW
  obtain ⟨p, q, hA0, hV, rfl, hfz, hnd⟩ := hW
  have hA : DataW.TrodAll enc Tryd.prog W 0 (fun _ => true) true Tryd.f7.params.toList args.toList ds p := hA0
  rw [Tryd.params7] at hA hval
  obtain ⟨v0, vs0, d0, ds0, p0, q0, hargs, rfl, rfl, h0, r0⟩ := trodAll_cons hA
  obtain ⟨v1, vs1, d1, ds1, p1, q1, rfl, rfl, rfl, h1, r1⟩ := trodAll_cons r0
  obtain ⟨v2, vs2, d2, ds2, p2, q2, rfl, rfl, rfl, h2, r2⟩ := trodAll_cons r1
  obtain ⟨v3, vs3, d3, ds3, p3, q3, rfl, rfl, rfl, h3, r3⟩ := trodAll_cons r2
  obtain ⟨v4, vs4, d4, ds4, p4, q4, rfl, rfl, rfl, h4, r4⟩ := trodAll_cons r3
  obtain ⟨rfl, rfl, rfl⟩ := trodAll_nil r4
  obtain rfl : args = #[v0, v1, v2, v3, v4] := by cases args; simp_all
  obtain ⟨rfl, rfl⟩ := trodVars_none hV
  obtain ⟨c0, e0, y0, z0, m0, rfl, rfl, rfl, hy0, hz0⟩ := open_agg2 Tryd.underlying38 (by kernel_rfl) cellsEd (hval 0 38 v0 rfl rfl) h0
  obtain ⟨a0, g0, rfl, wa0⟩ := DataW.trod_int Tryd.underlying32 hy0
  obtain ⟨b0, g0', rfl, wb0⟩ := DataW.trod_int Tryd.underlying32 hz0
  simp at g0 g0'
  subst g0 g0'
  obtain ⟨c1, e1, y1, z1, m1, rfl, rfl, rfl, hy1, hz1⟩ := open_agg2 Tryd.underlying38 (by kernel_rfl) cellsEd (hval 1 38 v1 rfl rfl) h1
  obtain ⟨a1, g1, rfl, wa1⟩ := DataW.trod_int Tryd.underlying32 hy1
  obtain ⟨b1, g1', rfl, wb1⟩ := DataW.trod_int Tryd.underlying32 hz1
  simp at g1 g1'
  subst g1 g1'
  obtain ⟨c2, e2, y2, z2, m2, rfl, rfl, rfl, hy2, hz2⟩ := open_agg2 Tryd.underlying38 (by kernel_rfl) cellsEd (hval 2 38 v2 rfl rfl) h2
  obtain ⟨a2, g2, rfl, wa2⟩ := DataW.trod_int Tryd.underlying32 hy2
  obtain ⟨b2, g2', rfl, wb2⟩ := DataW.trod_int Tryd.underlying32 hz2
  simp at g2 g2'
  subst g2 g2'
  obtain ⟨a3, rfl, rfl, rfl, wa3⟩ := open_int Tryd.underlying32 (hval 3 32 v3 rfl rfl) h3
  obtain ⟨a4, rfl, rfl, rfl, wa4⟩ := open_int Tryd.underlying32 (hval 4 32 v4 rfl rfl) h4
  clear hA0 hval0
  simp only [List.append_nil] at hW'
  have na0 := bounds_u64 wa0
  have nb0 := bounds_u64 wb0
  have na1 := bounds_u64 wa1
  have nb1 := bounds_u64 wb1
  have na2 := bounds_u64 wa2
  have nb2 := bounds_u64 wb2
  have na3 := bounds_u64 wa3
  have na4 := bounds_u64 wa4
  have reads0 : ∀ (W' : World) (sp : Nat → Bool), DataW.Trod enc Tryd.prog W' 0 sp true 38 (.agg #[.int .u64 a0, .int .u64 b0]) (.agg [.lit (.int .u64 a0), .lit (.int .u64 b0)]) [] := fun W' sp =>
    shut_agg2 (y0 := (.lit (.int .u64 a0), [])) (y1 := (.lit (.int .u64 b0), [])) Tryd.underlying38 (by kernel_rfl) cellsEd ⟨1, by simp [DataW.trod, Tryd.underlying32, wa0]⟩ ⟨1, by simp [DataW.trod, Tryd.underlying32, wb0]⟩
  have reads1 : ∀ (W' : World) (sp : Nat → Bool), DataW.Trod enc Tryd.prog W' 0 sp true 38 (.agg #[.int .u64 a1, .int .u64 b1]) (.agg [.lit (.int .u64 a1), .lit (.int .u64 b1)]) [] := fun W' sp =>
    shut_agg2 (y0 := (.lit (.int .u64 a1), [])) (y1 := (.lit (.int .u64 b1), [])) Tryd.underlying38 (by kernel_rfl) cellsEd ⟨1, by simp [DataW.trod, Tryd.underlying32, wa1]⟩ ⟨1, by simp [DataW.trod, Tryd.underlying32, wb1]⟩
  have reads2 : ∀ (W' : World) (sp : Nat → Bool), DataW.Trod enc Tryd.prog W' 0 sp true 38 (.agg #[.int .u64 a2, .int .u64 b2]) (.agg [.lit (.int .u64 a2), .lit (.int .u64 b2)]) [] := fun W' sp =>
    shut_agg2 (y0 := (.lit (.int .u64 a2), [])) (y1 := (.lit (.int .u64 b2), [])) Tryd.underlying38 (by kernel_rfl) cellsEd ⟨1, by simp [DataW.trod, Tryd.underlying32, wa2]⟩ ⟨1, by simp [DataW.trod, Tryd.underlying32, wb2]⟩
  refine (walkGroup W (rows_of_laid hL) a0 b0 a1 b1 a2 b2 a3 a4 na0.1 nb0.1 na1.1 nb1.1 na2.1 nb2.1 na3.1 (by have := na3.2; omega) na4.1 (by have := na4.2; omega)).mono fun e W' ⟨he, hb⟩ => ?_
  subst he
  exact ⟨_, rfl, _, _, _, [], [], [], hW', (trodAll_cons_mk (shut_bool Tryd.underlying4 _) trodAll_mk0), (trodAll_cons_mk (reads0 _ _) (trodAll_cons_mk (reads1 _ _) (trodAll_cons_mk (reads2 _ _) (trodAll_cons_mk (shut_int Tryd.underlying32 wa3) (trodAll_cons_mk (shut_int Tryd.underlying32 wa4) trodAll_mk0))))), rfl, hb.frame _, fun h => by cases h⟩

theorem over : Rows.EdwardsGroupSaid :=
  OpenClaim.holds_of_wide 7 Tryd.f7 rfl rfl rfl rfl rfl rfl rfl ⟨rfl, rfl, rfl, rfl, rfl⟩ rfl rfl rfl rfl rfl (by kernel_rfl) Tryd.func7 (by kernel_rfl)
    (of_decide_eq_true (by kernel_rfl)) (by unfold Func.isWrapper; first | (rw [if_pos (by decide +kernel)]; kernel_rfl) | (rw [if_neg (by decide +kernel)]; exact ⟨rfl, rfl⟩))
    (fun os started H enc _ => lifted os started H enc)
end Go.Proofs.YtcdfpceagobicaaDoor.edwardsGroup
namespace Go.Proofs.YtcdfpceagobicaaDoor
/-- The tied card. -/
theorem edwardsGroup_holds : Rows.EdwardsGroupCardSaid :=
  Claim7.holds_tied_plain_at .later [] [.data] true (true, "f75872f1c50f897754169a319509f1150d95eb740a9a412d7b7e27b4928491ec") true
    edwardsGroup.over (fun _ h => by cases h) (by kernel_rfl) (fun _ h => by cases h) edwardsGroup_row_tie rfl ⟨rfl, rfl⟩ (by kernel_rfl) rfl
    (fun f fn hf hfn => by
      obtain rfl : f = 7 := Option.some.inj ((show Tryd.prog.funcNamed "obol/obollaw07.EdwardsGroup" = some 7 by kernel_rfl).symm.trans hf) |>.symm
      obtain rfl : fn = Tryd.f7 := (Option.some.inj (Tryd.func7.symm.trans hfn)).symm
      exact ⟨by kernel_rfl, fun j t ht => by
        rw [Tryd.params7] at ht
        have hm : t ∈ ([38, 38, 38, 32, 32] : List TypeId) := by simpa using Array.mem_of_getElem? ht
        have hall : (([38, 38, 38, 32, 32] : List TypeId).all fun u => !Tryd.prog.wantsStandIn u) = true := by kernel_rfl
        exact (show Tryd.prog.wantsStandIn t = false by simpa using List.all_eq_true.1 hall t hm)⟩)
    (by kernel_rfl)
#print axioms edwardsGroup_holds
end Go.Proofs.YtcdfpceagobicaaDoor
