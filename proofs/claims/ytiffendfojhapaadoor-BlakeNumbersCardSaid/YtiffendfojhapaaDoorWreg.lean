import Derived.Test.YtiffendfojhapaaDoorWrow
import Derived.Deep.RegionHeld3
/- A region that draws its order, operation by operation. -/
namespace Go.Proofs.YtiffendfojhapaaDoor
open Go.RowKit

/-! a region that draws, op by op -/
section
variable {P : Program} {ops : List Oper} {Q : Exit → Act → World → Prop} {md : Region.Mode} {S : World → Prop}
theorem takeH (i : Nat) {oi : Oper} {v : Value} {fuel : Nat} {listed : Array Bool} {a : Act} {w : World} (hQ : ∀ c a d v w, Q (.panic c) (a.put d v) w → Q (.panic c) a w) (hs : Region.noSelect ops.toArray = true) (hS : S w)
    (hi : ops[i]? = some oi) (hf : (Region.free md ops.toArray listed i && (Region.ready md ops.toArray listed).contains i) = true)
    (hw : Region.wanted oi (yielded ops.toArray a.tmps) = true) (hv : ∀ w, S w → (execOp a.eval oi).run P w = .ok (.value v) w)
    (h : wpAnyH P md ops.toArray Q S fuel (listed.setIfInBounds i true) (a.put oi.dst v) w) : wpAnyH P md ops.toArray Q S (fuel + 1) listed a w := by
  rw [Bool.and_eq_true] at hf
  exact wpAnyH_take (by rw [List.getElem?_toArray]; exact hi) hs hf.1 hf.2 (fun c a w h => hQ c a _ _ w h) (Or.inl ⟨hw, hv⟩) hS h
theorem skipH (i : Nat) {oi : Oper} {fuel : Nat} {listed : Array Bool} {a : Act} {w : World} (hQ : ∀ c a d v w, Q (.panic c) (a.put d v) w → Q (.panic c) a w) (hs : Region.noSelect ops.toArray = true) (hS : S w)
    (hi : ops[i]? = some oi) (hf : (Region.free md ops.toArray listed i && (Region.ready md ops.toArray listed).contains i) = true)
    (hw : Region.wanted oi (yielded ops.toArray a.tmps) = false)
    (h : wpAnyH P md ops.toArray Q S fuel (listed.setIfInBounds i true) (a.put oi.dst undef) w) : wpAnyH P md ops.toArray Q S (fuel + 1) listed a w := by
  rw [Bool.and_eq_true] at hf
  exact wpAnyH_take (by rw [List.getElem?_toArray]; exact hi) hs hf.1 hf.2 (fun c a w h => hQ c a _ _ w h) (Or.inr ⟨hw, rfl⟩) hS h
theorem stepH (i : Nat) {oi : Oper} {fuel : Nat} {listed : Array Bool} {a : Act} {w : World} (hr : Region.ready md ops.toArray listed = [i]) (hi : ops[i]? = some oi)
    (hw : Region.wanted oi (yielded ops.toArray a.tmps) = true)
    (h : ∀ K' : Act → World → Prop, Shut (∀ a w, S w → (S w → wpAnyH P md ops.toArray Q S fuel (listed.setIfInBounds i true) a w) → K' a w) → Oper.wp P oi a w K' Q) : wpAnyH P md ops.toArray Q S (fuel + 1) listed a w :=
  wpAnyH_ready hr (by simp) (AllReadyH.cons (by rw [List.getElem?_toArray]; exact hi) (fun K hK => by rw [if_pos hw]; exact h K hK) AllReadyH.nil)
end

end Go.Proofs.YtiffendfojhapaaDoor
