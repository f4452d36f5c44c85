import Derived.Test.YtallfmiikjmgaaaDoorRows
import Derived.Test.YtallfmiikjmgaaaDoorCards
import Derived.Test.YtallfmiikjmgaaaDoorTie
import Derived.Test.YtallfmiikjmgaaaDoorZLaid
import Derived.SevenTiedAt
import Derived.LaidMore
import Derived.Stop.Joined
import Derived.Test.YtallfmiikjmgaaaDoorZLnstays
import Derived.ProofKit
import Derived.OpenShut
import Derived.Lib.SmallJoins
import Derived.Test.YtallfmiikjmgaaaDoorZVnote
import Derived.Test.YtallfmiikjmgaaaDoorZVaddr
set_option linter.unusedVariables false
set_option linter.unusedSimpArgs false
/-
  PROVED: the law 'obol/obollaw17.NoteStays' returns true at every input, and every argument reads behind the call as it read before. No condition.
-/
namespace Go.Proofs.YtallfmiikjmgaaaDoor.noteStays
open Go.ChangeShapes Go.WideShapes Go.ChangeAt Go.RowKit Go.Joins
set_option linter.unusedVariables false
theorem own : ownKnob Tryd.prog.godebug = none := by kernel_rfl
set_option maxRecDepth 100000 in
theorem lifted (os : Os) (started : os.Started) (H : Type) (enc : TypeId × Value → H) :
    ReturnsInHanded {} Tryd.checked os 7 .any (fun w args => (Rows.noteStaysSpec.pre enc Tryd.prog Tryd.f7 [] false w args ∧ laidMetH Tryd.prog laidB w) ∧ sizedMet enc Tryd.prog Tryd.f7 (OpenSpec.ofChange Rows.noteStaysSpec) false w args)
      (Rows.noteStaysSpec.post enc Tryd.prog Tryd.f7 false true false false) := by
  refine returnsInHanded_of_change_and (C := Tryd.checked) (X := fun w _ => laidMetH Tryd.prog laidB w) (fun _ _ _ hh h => h.of_heap hh) own started (by kernel_rfl) Tryd.func7
    (ChangeSpec.witness_shaped (enc := enc) (C := Tryd.checked) (os := os) (X := fun w _ => laidMetH Tryd.prog laidB w) false (World.doorLaid Tryd.prog 400 os) #[.int .u64 0, .agg #[.int .u64 0, .int .u64 0, .slice none 0 0], .agg #[.int .u64 0, .int .u64 0, .int .u64 0], .int .u64 0] 8 rfl (World.shaped_of_RefB (by kernel_rfl) (by kernel_rfl)) (by kernel_rfl) (by kernel_rfl) (by kernel_rfl) (door_met os _)) ?_
  intro W base args ds gs before hval0 hW _ hsz0 hL _
  have hval : ∀ (j : Nat) t v, Tryd.f7.params[j]? = some t → args[j]? = some v → Value.okWide Tryd.prog W .any base t v := hval0
  have hW' := hW
  obtain ⟨p, q, hA0, hV, rfl, hfz, hnd⟩ := hW
  have hA : DataW.TrodAll enc Tryd.prog W 0 (fun _ => true) true Tryd.f7.params.toList args.toList ds p := hA0
  rw [Tryd.params7] at hA hval
  obtain ⟨v0, vs0, d0, ds0, p0, q0, hargs, rfl, rfl, h0, r0⟩ := trodAll_cons hA
  obtain ⟨v1, vs1, d1, ds1, p1, q1, rfl, rfl, rfl, h1, r1⟩ := trodAll_cons r0
  obtain ⟨v2, vs2, d2, ds2, p2, q2, rfl, rfl, rfl, h2, r2⟩ := trodAll_cons r1
  obtain ⟨v3, vs3, d3, ds3, p3, q3, rfl, rfl, rfl, h3, r3⟩ := trodAll_cons r2
  obtain ⟨rfl, rfl, rfl⟩ := trodAll_nil r3
  obtain rfl : args = #[v0, v1, v2, v3] := by cases args; simp_all
  obtain ⟨rfl, rfl⟩ := trodVars_none hV
  obtain ⟨a0, rfl, rfl, rfl, wa0⟩ := open_int Tryd.underlying22 (hval 0 22 v0 rfl rfl) h0
  obtain ⟨a1, b1, s1, len1, cap1, e1, rfl, na1, nb1, hB1⟩ := open_sealed (hval 1 44 v1 rfl rfl) h1
  obtain ⟨L1, x1, hl1, hc1, hn1, hb1⟩ := viewB hB1
  obtain ⟨a2, b2, c2, rfl, rfl, rfl, wa2, wb2, wc2⟩ := open_note (hval 2 41 v2 rfl rfl) h2
  obtain ⟨a3, rfl, rfl, rfl, wa3⟩ := open_int Tryd.underlying22 (hval 3 22 v3 rfl rfl) h3
  clear hA0 hval0
  simp only [List.append_nil] at hW'
  have na0 := bounds_u64 wa0
  have na2 := bounds_u64 wa2
  have nb2 := bounds_u64 wb2
  have nc2 := bounds_u64 wc2
  have na3 := bounds_u64 wa3
  refine (walkNStays W (rows_of_laid hL) a0 a1 b1 s1 len1 cap1 L1 x1 hl1 hc1 hn1 hb1 a2 b2 c2 a3 na0.1 (by have := na0.2; omega) na1 nb1 na2.1 (by have := na2.2; omega) nb2.1 (by have := nb2.2; omega) nc2.1 (by have := nc2.2; omega) na3.1 (by have := na3.2; omega)).mono fun e W' ⟨he, hb⟩ => ?_
  subst he
  have hlt1 : ∀ x ∈ p1, x.block < W.heap.size := fun x hx => by have := hW'.lt x (by simp [hx]); simpa using this
  exact ⟨_, rfl, _, _, _, [], _, [], hW', (trodAll_cons_mk (shut_bool Tryd.underlying4 _) trodAll_mk0), (trodAll_cons_mk (shut_int Tryd.underlying22 wa0) (trodAll_cons_mk (Below.trod laidOutA readSe (of_decide_eq_true (by kernel_rfl)) h1 hb hlt1) (trodAll_cons_mk (shut_note wa2 wb2 wc2) (trodAll_cons_mk (shut_int Tryd.underlying22 wa3) trodAll_mk0)))), rfl, hb.frame _, fun h => by cases h⟩

theorem over : Rows.NoteStaysSaid :=
  OpenClaim.holds_of_wide 7 Tryd.f7 rfl rfl rfl rfl rfl rfl rfl ⟨rfl, rfl, rfl, rfl, rfl⟩ rfl rfl rfl rfl rfl (by kernel_rfl) Tryd.func7 (by kernel_rfl)
    (of_decide_eq_true (by kernel_rfl)) (by unfold Func.isWrapper; first | (rw [if_pos (by decide +kernel)]; kernel_rfl) | (rw [if_neg (by decide +kernel)]; exact ⟨rfl, rfl⟩))
    (fun os started H enc _ => lifted os started H enc)
end Go.Proofs.YtallfmiikjmgaaaDoor.noteStays
namespace Go.Proofs.YtallfmiikjmgaaaDoor
/-- The tied card. -/
theorem noteStays_holds : Rows.NoteStaysCardSaid :=
  Claim7.holds_tied_plain_at .later [] [.data] true (true, "2725adef52b7bb5a8446b05b0314fd82d6453772c554f2a9e23bb24af2651f34") true
    noteStays.over (fun _ h => by cases h) (by kernel_rfl) (fun _ h => by cases h) noteStays_row_tie rfl ⟨rfl, rfl⟩ (by kernel_rfl) rfl
    (fun f fn hf hfn => by
      obtain rfl : f = 7 := Option.some.inj ((show Tryd.prog.funcNamed "obol/obollaw17.NoteStays" = some 7 by kernel_rfl).symm.trans hf) |>.symm
      obtain rfl : fn = Tryd.f7 := (Option.some.inj (Tryd.func7.symm.trans hfn)).symm
      exact ⟨by kernel_rfl, fun j t ht => by
        rw [Tryd.params7] at ht
        have hm : t ∈ ([22, 44, 41, 22] : List TypeId) := by simpa using Array.mem_of_getElem? ht
        have hall : (([22, 44, 41, 22] : List TypeId).all fun u => !Tryd.prog.wantsStandIn u) = true := by kernel_rfl
        exact (show Tryd.prog.wantsStandIn t = false by simpa using List.all_eq_true.1 hall t hm)⟩)
    (by kernel_rfl)
#print axioms noteStays_holds
end Go.Proofs.YtallfmiikjmgaaaDoor
