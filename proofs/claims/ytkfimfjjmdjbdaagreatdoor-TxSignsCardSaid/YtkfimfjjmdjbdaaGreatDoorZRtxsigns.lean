import Derived.Test.YtkfimfjjmdjbdaaGreatDoorRows
import Derived.Test.YtkfimfjjmdjbdaaGreatDoorCards
import Derived.Test.YtkfimfjjmdjbdaaGreatDoorTie
import Derived.Test.YtkfimfjjmdjbdaaGreatDoorUs
import Derived.SevenTiedAt
import Derived.LaidMore
import Derived.Stop.Joined
import Derived.Test.YtkfimfjjmdjbdaaGreatDoorUC
import Derived.ProofKit
import Derived.OpenShut
import Derived.Lib.SmallJoins
import Derived.Test.YtkfimfjjmdjbdaaGreatDoorUa
import Derived.Test.YtkfimfjjmdjbdaaGreatDoorUk
set_option linter.unusedVariables false
set_option linter.unusedSimpArgs false
set_option linter.unusedSectionVars false
/-
  PROVED: the law 'obol/obollaw19.TxSigns' returns true at every input, and every argument reads behind the call as it read before. No condition.
-/
namespace Go.Proofs.YtkfimfjjmdjbdaaGreatDoor.txSigns
open Go.ChangeShapes Go.WideShapes Go.ChangeAt Go.RowKit Go.Joins
set_option linter.unusedVariables false
theorem own : ownKnob Tryz.prog.godebug = none := by kernel_rfl
set_option maxRecDepth 100000 in
theorem lifted (os : Os) (started : os.Started) (H : Type) (enc : TypeId × Value → H) :
    ReturnsInHanded {} Tryz.checked os 3 .any (fun w args => (Rows.txSignsSpec.pre enc Tryz.prog Tryz.f3 [] false w args ∧ laidMetH Tryz.prog laidB w) ∧ sizedMet enc Tryz.prog Tryz.f3 (OpenSpec.ofChange Rows.txSignsSpec) false w args)
      (Rows.txSignsSpec.post enc Tryz.prog Tryz.f3 false true false false) := by
  refine returnsInHanded_of_change_and (C := Tryz.checked) (X := fun w _ => laidMetH Tryz.prog laidB w) (fun _ _ _ hh h => h.of_heap hh) own started (by kernel_rfl) Tryz.func3
    (ChangeSpec.witness_shaped (enc := enc) (C := Tryz.checked) (os := os) (X := fun w _ => laidMetH Tryz.prog laidB w) false (World.doorLaid Tryz.prog 400 os) #[.agg #[.int .u64 0, .int .u64 0, .int .u64 0, .int .u64 0, .int .u64 0, .int .u64 0, .int .u64 0, .int .u64 0, .int .u64 0, .int .u64 0, .int .u64 0, .int .u64 0, .int .u64 0, .int .u64 0, .slice none 0 0, .int .u64 0, .int .u64 0, .slice none 0 0, .int .u64 0, .int .u64 0, .bool false, .int .u64 0, .int .u64 0, .bool false, .int .u64 0, .int .u64 0, .bool false, .int .u64 0, .int .u64 0, .int .u64 0, .int .u64 0, .int .u64 0]] 8 rfl (World.shaped_of_RefB (by kernel_rfl) (by kernel_rfl)) (by kernel_rfl) (by kernel_rfl) (by kernel_rfl) (door_met os _)) ?_
  intro W base args ds gs before hval0 hW _ hsz0 hL _
  have hval : ∀ (j : Nat) t v, Tryz.f3.params[j]? = some t → args[j]? = some v → Value.okWide Tryz.prog W .any base t v := hval0
  have hW' := hW
  obtain ⟨p, q, hA0, hV, rfl, hfz, hnd⟩ := hW
  have hA : DataW.TrodAll enc Tryz.prog W 0 (fun _ => true) true Tryz.f3.params.toList args.toList ds p := hA0
  rw [Tryz.params3] at hA hval
  obtain ⟨v0, vs0, d0, ds0, p0, q0, hargs, rfl, rfl, h0, r0⟩ := trodAll_cons hA
  obtain ⟨rfl, rfl, rfl⟩ := trodAll_nil r0
  obtain rfl : args = #[v0] := by cases args; simp_all
  obtain ⟨rfl, rfl⟩ := trodVars_none hV
  obtain ⟨t0, dd0, de0, pp0, pq0, rfl, ok0, tb0, tc0⟩ := open_tx (hval 0 37 v0 rfl rfl) h0
  obtain ⟨M0, xm0, hlm0, hcm0, hnm0, hbm0⟩ := viewB tb0
  obtain ⟨K0, xk0, hlk0, hck0, hnk0, hbk0⟩ := viewB tc0
  have bods0 : Bods t0 M0 K0 W.heap.size W := ⟨xm0.len, xk0.len, slOf xm0 hlm0 hcm0 hnm0 hbm0, slOf xk0 hlk0 hck0 hnk0 hbk0⟩
  clear hA0 hval0
  simp only [List.append_nil] at hW'
  refine (walkTxSigns W (rows_of_laid hL) t0 ok0 M0 xm0 K0 xk0 bods0 ).mono fun e W' ⟨he, hb⟩ => ?_
  subst he
  have hlt0 : ∀ x ∈ p0, x.block < W.heap.size := fun x hx => by have := hW'.lt x (by simp [hx]); simpa using this
  exact ⟨_, rfl, _, _, _, [], _, [], hW', (trodAll_cons_mk (shut_bool Tryz.underlying4 _) trodAll_mk0), (trodAll_cons_mk (Below.trod laidOutA readTx (of_decide_eq_true (by kernel_rfl)) h0 hb hlt0) trodAll_mk0), rfl, hb.frame _, fun h => by cases h⟩

theorem over : Rows.TxSignsSaid :=
  OpenClaim.holds_of_wide 3 Tryz.f3 rfl rfl rfl rfl rfl rfl rfl ⟨rfl, rfl, rfl, rfl, rfl⟩ rfl rfl rfl rfl rfl (by kernel_rfl) Tryz.func3 (by kernel_rfl)
    (of_decide_eq_true (by kernel_rfl)) (by unfold Func.isWrapper; first | (rw [if_pos (by decide +kernel)]; kernel_rfl) | (rw [if_neg (by decide +kernel)]; exact ⟨rfl, rfl⟩))
    (fun os started H enc _ => lifted os started H enc)
end Go.Proofs.YtkfimfjjmdjbdaaGreatDoor.txSigns
namespace Go.Proofs.YtkfimfjjmdjbdaaGreatDoor
/-- The tied card. -/
theorem txSigns_holds : Rows.TxSignsCardSaid :=
  Claim7.holds_tied_plain_at .later [] [.data] true (true, "0244975907b05ee6e7df814f3a1ea15315bbc7d215095fac5f4718a35ac9255e") true
    txSigns.over (fun _ h => by cases h) (by kernel_rfl) (fun _ h => by cases h) txSigns_row_tie rfl ⟨rfl, rfl⟩ (by kernel_rfl) rfl
    (fun f fn hf hfn => by
      obtain rfl : f = 3 := Option.some.inj ((show Tryz.prog.funcNamed "obol/obollaw19.TxSigns" = some 3 by kernel_rfl).symm.trans hf) |>.symm
      obtain rfl : fn = Tryz.f3 := (Option.some.inj (Tryz.func3.symm.trans hfn)).symm
      exact ⟨by kernel_rfl, fun j t ht => by
        rw [Tryz.params3] at ht
        have hm : t ∈ ([37] : List TypeId) := by simpa using Array.mem_of_getElem? ht
        have hall : (([37] : List TypeId).all fun u => !Tryz.prog.wantsStandIn u) = true := by kernel_rfl
        exact (show Tryz.prog.wantsStandIn t = false by simpa using List.all_eq_true.1 hall t hm)⟩)
    (by kernel_rfl)
#print axioms txSigns_holds
end Go.Proofs.YtkfimfjjmdjbdaaGreatDoor
