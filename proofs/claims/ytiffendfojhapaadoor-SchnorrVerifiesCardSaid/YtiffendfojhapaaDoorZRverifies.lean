import Derived.Test.YtiffendfojhapaaDoorRows
import Derived.Test.YtiffendfojhapaaDoorCards
import Derived.Test.YtiffendfojhapaaDoorTie
import Derived.Test.YtiffendfojhapaaDoorZLaid
import Derived.SevenTiedAt
import Derived.LaidMore
import Derived.Stop.Joined
import Derived.Test.YtiffendfojhapaaDoorZLverifies
import Derived.ProofKit
import Derived.OpenShut
import Derived.Lib.SmallJoins
import Derived.Test.YtiffendfojhapaaDoorMC
set_option linter.unusedVariables false
set_option linter.unusedSimpArgs false
/-
  PROVED: the law 'obol/obollaw09.SchnorrVerifies' returns true at every input, and every argument reads behind the call as it read before. No condition.
-/
namespace Go.Proofs.YtiffendfojhapaaDoor.schnorrVerifies
open Go.ChangeShapes Go.WideShapes Go.ChangeAt Go.RowKit Go.Joins
set_option linter.unusedVariables false
theorem own : ownKnob Tryd.prog.godebug = none := by kernel_rfl
theorem cellsEd : Tryd.prog.cellsOf 37 = 2 := by kernel_rfl
set_option maxRecDepth 100000 in
theorem lifted (os : Os) (started : os.Started) (H : Type) (enc : TypeId × Value → H) :
    ReturnsInHanded {} Tryd.checked os 7 .any (fun w args => (Rows.schnorrVerifiesSpec.pre enc Tryd.prog Tryd.f7 [] false w args ∧ laidMetH Tryd.prog laidB w) ∧ sizedMet enc Tryd.prog Tryd.f7 (OpenSpec.ofChange Rows.schnorrVerifiesSpec) false w args)
      (Rows.schnorrVerifiesSpec.post enc Tryd.prog Tryd.f7 false true false false) := by
  refine returnsInHanded_of_change_and (C := Tryd.checked) (X := fun w _ => laidMetH Tryd.prog laidB w) (fun _ _ _ hh h => h.of_heap hh) own started (by kernel_rfl) Tryd.func7
    (ChangeSpec.witness_shaped (enc := enc) (C := Tryd.checked) (os := os) (X := fun w _ => laidMetH Tryd.prog laidB w) false (World.doorLaid Tryd.prog 400 os) #[.agg #[.int .u64 0, .int .u64 0], .slice none 0 0, .agg #[.int .u64 0, .int .u64 0, .int .u64 0]] 8 rfl (World.shaped_of_RefB (by kernel_rfl) (by kernel_rfl)) (by kernel_rfl) (by kernel_rfl) (by kernel_rfl) (door_met os _)) ?_
  intro W base args ds gs before hval0 hW _ hsz0 hL _
  have hval : ∀ (j : Nat) t v, Tryd.f7.params[j]? = some t → args[j]? = some v → Value.okWide Tryd.prog W .any base t v := hval0
  have hW' := hW
  obtain ⟨p, q, hA0, hV, rfl, hfz, hnd⟩ := hW
  have hA : DataW.TrodAll enc Tryd.prog W 0 (fun _ => true) true Tryd.f7.params.toList args.toList ds p := hA0
  rw [Tryd.params7] at hA hval
  obtain ⟨v0, vs0, d0, ds0, p0, q0, hargs, rfl, rfl, h0, r0⟩ := trodAll_cons hA
  obtain ⟨v1, vs1, d1, ds1, p1, q1, rfl, rfl, rfl, h1, r1⟩ := trodAll_cons r0
  obtain ⟨v2, vs2, d2, ds2, p2, q2, rfl, rfl, rfl, h2, r2⟩ := trodAll_cons r1
  obtain ⟨rfl, rfl, rfl⟩ := trodAll_nil r2
  obtain rfl : args = #[v0, v1, v2] := by cases args; simp_all
  obtain ⟨rfl, rfl⟩ := trodVars_none hV
  obtain ⟨c0, e0, y0, z0, m0, rfl, rfl, rfl, hy0, hz0⟩ := open_agg2 Tryd.underlying37 (by kernel_rfl) cellsEd (hval 0 37 v0 rfl rfl) h0
  obtain ⟨a0, g0, rfl, wa0⟩ := DataW.trod_int Tryd.underlying31 hy0
  obtain ⟨b0, g0', rfl, wb0⟩ := DataW.trod_int Tryd.underlying31 hz0
  simp at g0 g0'
  subst g0 g0'
  obtain ⟨a1, len1, cap1, rfl⟩ := okWide_slice Tryd.underlying22 (hval 1 22 v1 rfl rfl)
  obtain ⟨L1, x1, hl1, hc1, hn1, hb1⟩ := viewB h1
  obtain ⟨a2, b2, c2, rfl, rfl, rfl, wa2, wb2, wc2⟩ := open_sig (hval 2 44 v2 rfl rfl) h2
  clear hA0 hval0
  simp only [List.append_nil] at hW'
  have na0 := bounds_u64 wa0
  have nb0 := bounds_u64 wb0
  have na2 := bounds_u64 wa2
  have nb2 := bounds_u64 wb2
  have nc2 := bounds_u64 wc2
  have reads0 : ∀ (W' : World) (sp : Nat → Bool), DataW.Trod enc Tryd.prog W' 0 sp true 37 (.agg #[.int .u64 a0, .int .u64 b0]) (.agg [.lit (.int .u64 a0), .lit (.int .u64 b0)]) [] := fun W' sp =>
    shut_agg2 (y0 := (.lit (.int .u64 a0), [])) (y1 := (.lit (.int .u64 b0), [])) Tryd.underlying37 (by kernel_rfl) cellsEd ⟨1, by simp [DataW.trod, Tryd.underlying31, wa0]⟩ ⟨1, by simp [DataW.trod, Tryd.underlying31, wb0]⟩
  refine (walkVerifies W (rows_of_laid hL) a0 b0 a1 len1 cap1 L1 x1 hl1 hc1 hn1 hb1 a2 b2 c2 na0.1 nb0.1 na2.1 nb2.1 nc2.1 (by have := nc2.2; omega)).mono fun e W' ⟨he, hb⟩ => ?_
  subst he
  have hlt1 : ∀ x ∈ p1, x.block < W.heap.size := fun x hx => by have := hW'.lt x (by simp [hx]); simpa using this
  exact ⟨_, rfl, _, _, _, [], _, [], hW', (trodAll_cons_mk (shut_bool Tryd.underlying4 _) trodAll_mk0), (trodAll_cons_mk (reads0 _ _) (trodAll_cons_mk (Below.trod laidOutA readB (of_decide_eq_true (by kernel_rfl)) h1 hb hlt1) (trodAll_cons_mk (shut_sig wa2 wb2 wc2) trodAll_mk0))), rfl, hb.frame _, fun h => by cases h⟩

theorem over : Rows.SchnorrVerifiesSaid :=
  OpenClaim.holds_of_wide 7 Tryd.f7 rfl rfl rfl rfl rfl rfl rfl ⟨rfl, rfl, rfl, rfl, rfl⟩ rfl rfl rfl rfl rfl (by kernel_rfl) Tryd.func7 (by kernel_rfl)
    (of_decide_eq_true (by kernel_rfl)) (by unfold Func.isWrapper; first | (rw [if_pos (by decide +kernel)]; kernel_rfl) | (rw [if_neg (by decide +kernel)]; exact ⟨rfl, rfl⟩))
    (fun os started H enc _ => lifted os started H enc)
end Go.Proofs.YtiffendfojhapaaDoor.schnorrVerifies
namespace Go.Proofs.YtiffendfojhapaaDoor
/-- The tied card. -/
theorem schnorrVerifies_holds : Rows.SchnorrVerifiesCardSaid :=
  Claim7.holds_tied_plain_at .later [] [.data] true (true, "f9d274a92b25f72fe199915392d0f97d6e4de78fb484819201ee6d2edae0a96f") true
    schnorrVerifies.over (fun _ h => by cases h) (by kernel_rfl) (fun _ h => by cases h) schnorrVerifies_row_tie rfl ⟨rfl, rfl⟩ (by kernel_rfl) rfl
    (fun f fn hf hfn => by
      obtain rfl : f = 7 := Option.some.inj ((show Tryd.prog.funcNamed "obol/obollaw09.SchnorrVerifies" = some 7 by kernel_rfl).symm.trans hf) |>.symm
      obtain rfl : fn = Tryd.f7 := (Option.some.inj (Tryd.func7.symm.trans hfn)).symm
      exact ⟨by kernel_rfl, fun j t ht => by
        rw [Tryd.params7] at ht
        have hm : t ∈ ([37, 22, 44] : List TypeId) := by simpa using Array.mem_of_getElem? ht
        have hall : (([37, 22, 44] : List TypeId).all fun u => !Tryd.prog.wantsStandIn u) = true := by kernel_rfl
        exact (show Tryd.prog.wantsStandIn t = false by simpa using List.all_eq_true.1 hall t hm)⟩)
    (by kernel_rfl)
#print axioms schnorrVerifies_holds
end Go.Proofs.YtiffendfojhapaaDoor
