import Derived.Test.YtallfmiikjmgaaaDoorRows
import Derived.Test.YtallfmiikjmgaaaDoorCards
import Derived.Test.YtallfmiikjmgaaaDoorTie
import Derived.Test.YtallfmiikjmgaaaDoorZLaid
import Derived.SevenTiedAt
import Derived.LaidMore
import Derived.Stop.Joined
import Derived.Test.YtallfmiikjmgaaaDoorZLnseals
import Derived.ProofKit
import Derived.OpenShut
import Derived.Lib.SmallJoins
import Derived.Test.YtallfmiikjmgaaaDoorZVnote
import Derived.Test.YtallfmiikjmgaaaDoorZVaddr
set_option linter.unusedVariables false
set_option linter.unusedSimpArgs false
/-
  PROVED: the law 'obol/obollaw17.NoteSeals' returns true at every input, and every argument reads behind the call as it read before. No condition.
-/
namespace Go.Proofs.YtallfmiikjmgaaaDoor.noteSeals
open Go.ChangeShapes Go.WideShapes Go.ChangeAt Go.RowKit Go.Joins
set_option linter.unusedVariables false
theorem own : ownKnob Tryd.prog.godebug = none := by kernel_rfl
set_option maxRecDepth 100000 in
theorem lifted (os : Os) (started : os.Started) (H : Type) (enc : TypeId × Value → H) :
    ReturnsInHanded {} Tryd.checked os 4 .any (fun w args => (Rows.noteSealsSpec.pre enc Tryd.prog Tryd.f4 [] false w args ∧ laidMetH Tryd.prog laidB w) ∧ sizedMet enc Tryd.prog Tryd.f4 (OpenSpec.ofChange Rows.noteSealsSpec) false w args)
      (Rows.noteSealsSpec.post enc Tryd.prog Tryd.f4 false true false false) := by
  refine returnsInHanded_of_change_and (C := Tryd.checked) (X := fun w _ => laidMetH Tryd.prog laidB w) (fun _ _ _ hh h => h.of_heap hh) own started (by kernel_rfl) Tryd.func4
    (ChangeSpec.witness_shaped (enc := enc) (C := Tryd.checked) (os := os) (X := fun w _ => laidMetH Tryd.prog laidB w) false (World.doorLaid Tryd.prog 400 os) #[.agg #[.int .u64 0, .int .u64 0, .int .u64 0], .agg #[.int .u64 0, .int .u64 0, .int .u64 0], .int .u64 0] 8 rfl (World.shaped_of_RefB (by kernel_rfl) (by kernel_rfl)) (by kernel_rfl) (by kernel_rfl) (by kernel_rfl) (door_met os _)) ?_
  intro W base args ds gs before hval0 hW _ hsz0 hL _
  have hval : ∀ (j : Nat) t v, Tryd.f4.params[j]? = some t → args[j]? = some v → Value.okWide Tryd.prog W .any base t v := hval0
  have hW' := hW
  obtain ⟨p, q, hA0, hV, rfl, hfz, hnd⟩ := hW
  have hA : DataW.TrodAll enc Tryd.prog W 0 (fun _ => true) true Tryd.f4.params.toList args.toList ds p := hA0
  rw [Tryd.params4] at hA hval
  obtain ⟨v0, vs0, d0, ds0, p0, q0, hargs, rfl, rfl, h0, r0⟩ := trodAll_cons hA
  obtain ⟨v1, vs1, d1, ds1, p1, q1, rfl, rfl, rfl, h1, r1⟩ := trodAll_cons r0
  obtain ⟨v2, vs2, d2, ds2, p2, q2, rfl, rfl, rfl, h2, r2⟩ := trodAll_cons r1
  obtain ⟨rfl, rfl, rfl⟩ := trodAll_nil r2
  obtain rfl : args = #[v0, v1, v2] := by cases args; simp_all
  obtain ⟨rfl, rfl⟩ := trodVars_none hV
  obtain ⟨a0, b0, c0, rfl, rfl, rfl, wa0, wb0, wc0⟩ := open_note (hval 0 41 v0 rfl rfl) h0
  obtain ⟨a1, b1, c1, rfl, rfl, rfl, wa1, wb1, wc1⟩ := open_addr (hval 1 31 v1 rfl rfl) h1
  obtain ⟨a2, rfl, rfl, rfl, wa2⟩ := open_int Tryd.underlying22 (hval 2 22 v2 rfl rfl) h2
  clear hA0 hval0
  simp only [List.append_nil] at hW'
  have na0 := bounds_u64 wa0
  have nb0 := bounds_u64 wb0
  have nc0 := bounds_u64 wc0
  have na1 := bounds_u64 wa1
  have nb1 := bounds_u64 wb1
  have nc1 := bounds_u64 wc1
  have na2 := bounds_u64 wa2
  refine (walkSeals W (rows_of_laid hL) a0 b0 c0 a1 b1 c1 a2 na0.1 (by have := na0.2; omega) nb0.1 (by have := nb0.2; omega) nc0.1 (by have := nc0.2; omega) na1.1 (by have := na1.2; omega) nb1.1 (by have := nb1.2; omega) nc1.1 (by have := nc1.2; omega) na2.1 (by have := na2.2; omega)).mono fun e W' ⟨he, hb⟩ => ?_
  subst he
  exact ⟨_, rfl, _, _, _, [], [], [], hW', (trodAll_cons_mk (shut_bool Tryd.underlying4 _) trodAll_mk0), (trodAll_cons_mk (shut_note wa0 wb0 wc0) (trodAll_cons_mk (shut_addr wa1 wb1 wc1) (trodAll_cons_mk (shut_int Tryd.underlying22 wa2) trodAll_mk0))), rfl, hb.frame _, fun h => by cases h⟩

theorem over : Rows.NoteSealsSaid :=
  OpenClaim.holds_of_wide 4 Tryd.f4 rfl rfl rfl rfl rfl rfl rfl ⟨rfl, rfl, rfl, rfl, rfl⟩ rfl rfl rfl rfl rfl (by kernel_rfl) Tryd.func4 (by kernel_rfl)
    (of_decide_eq_true (by kernel_rfl)) (by unfold Func.isWrapper; first | (rw [if_pos (by decide +kernel)]; kernel_rfl) | (rw [if_neg (by decide +kernel)]; exact ⟨rfl, rfl⟩))
    (fun os started H enc _ => lifted os started H enc)
end Go.Proofs.YtallfmiikjmgaaaDoor.noteSeals
namespace Go.Proofs.YtallfmiikjmgaaaDoor
/-- The tied card. -/
theorem noteSeals_holds : Rows.NoteSealsCardSaid :=
  Claim7.holds_tied_plain_at .later [] [.data] true (true, "2725adef52b7bb5a8446b05b0314fd82d6453772c554f2a9e23bb24af2651f34") true
    noteSeals.over (fun _ h => by cases h) (by kernel_rfl) (fun _ h => by cases h) noteSeals_row_tie rfl ⟨rfl, rfl⟩ (by kernel_rfl) rfl
    (fun f fn hf hfn => by
      obtain rfl : f = 4 := Option.some.inj ((show Tryd.prog.funcNamed "obol/obollaw17.NoteSeals" = some 4 by kernel_rfl).symm.trans hf) |>.symm
      obtain rfl : fn = Tryd.f4 := (Option.some.inj (Tryd.func4.symm.trans hfn)).symm
      exact ⟨by kernel_rfl, fun j t ht => by
        rw [Tryd.params4] at ht
        have hm : t ∈ ([41, 31, 22] : List TypeId) := by simpa using Array.mem_of_getElem? ht
        have hall : (([41, 31, 22] : List TypeId).all fun u => !Tryd.prog.wantsStandIn u) = true := by kernel_rfl
        exact (show Tryd.prog.wantsStandIn t = false by simpa using List.all_eq_true.1 hall t hm)⟩)
    (by kernel_rfl)
#print axioms noteSeals_holds
end Go.Proofs.YtallfmiikjmgaaaDoor
