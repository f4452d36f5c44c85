import Derived.Test.YtcdfpceagobicaaWput
import Derived.Test.YtcdfpceagobicaaWup7
import Derived.Deep.RegionHeld3
import Derived.Deep.RegionWith
import Derived.Laws.BytesArg
import Derived.Lib.IfaceEq
/- Bytes as strings; errors held against errors. -/
namespace Go.Proofs.Ytcdfpceagobicaa
open Go.RowKit

/-! a region that draws, op by op -/
section
variable {P : Program} {ops : List Oper} {Q : Exit → Act → World → Prop} {md : Region.Mode} {S : World → Prop}
theorem takeH (i : Nat) {oi : Oper} {v : Value} {fuel : Nat} {listed : Array Bool} {a : Act} {w : World} (hQ : ∀ c a d v w, Q (.panic c) (a.put d v) w → Q (.panic c) a w) (hs : Region.noSelect ops.toArray = true) (hS : S w)
    (hi : ops[i]? = some oi) (hf : (Region.free md ops.toArray listed i && (Region.ready md ops.toArray listed).contains i) = true)
    (hw : Region.wanted oi (yielded ops.toArray a.tmps) = true) (hv : ∀ w, S w → (execOp a.eval oi).run P w = .ok (.value v) w)
    (h : wpAnyH P md ops.toArray Q S fuel (listed.setIfInBounds i true) (a.put oi.dst v) w) : wpAnyH P md ops.toArray Q S (fuel + 1) listed a w := by
  rw [Bool.and_eq_true] at hf
  exact wpAnyH_take (by rw [List.getElem?_toArray]; exact hi) hs hf.1 hf.2 (fun c a w h => hQ c a _ _ w h) (Or.inl ⟨hw, hv⟩) hS h
theorem stepH (i : Nat) {oi : Oper} {fuel : Nat} {listed : Array Bool} {a : Act} {w : World} (hr : Region.ready md ops.toArray listed = [i]) (hi : ops[i]? = some oi)
    (hw : Region.wanted oi (yielded ops.toArray a.tmps) = true)
    (h : ∀ K' : Act → World → Prop, Shut (∀ a w, S w → (S w → wpAnyH P md ops.toArray Q S fuel (listed.setIfInBounds i true) a w) → K' a w) → Oper.wp P oi a w K' Q) : wpAnyH P md ops.toArray Q S (fuel + 1) listed a w :=
  wpAnyH_ready hr (by simp) (AllReadyH.cons (by rw [List.getElem?_toArray]; exact hi) (fun K hK => by rw [if_pos hw]; exact h K hK) AllReadyH.nil)
end

noncomputable def strB (L : List Nat) : ByteArray := strOfNums (L.map fun (n : Nat) => (n : Int))
theorem conv8 {w : World} {b o cap n : Nat} {L : List Nat} (h : BL w b o L) (hn : L.length = n) :
    (convert 22 9 (.slice (some ⟨b, o, none⟩) n cap)).run Try.prog w = .ok (.string (strB L)) w :=
  run_convert_bytes_arg (P := Try.prog) w 22 5 Try.underlying22 Try.underlying5 b o n cap (L.map fun (n : Nat) => (n : Int)) (by simp [hn])
    (fun i hi => by
      rw [h i (by omega), List.getD_eq_getElem?_getD, List.getD_eq_getElem?_getD, List.getElem?_map]
      cases L[i]? <;> rfl) 9 Try.underlying9

theorem eqErr (W : World) (a b : Int) : (binOp .eql 28 (.iface 31 (.int .i64 a)) (.iface 31 (.int .i64 b))).run Try.prog W = .ok (.bool (a == b)) W :=
  Lib.run_eql_iface_int W a b Try.underlying28 (by kernel_rfl) Try.underlying31

theorem readV_some {n : Nat} {p : Nat × Nat} (h : Obol.readN n = .some p) : readV n = .tuple #[edV (p.1 : Nat) (p.2 : Nat), .nilIface] := by
  unfold readV
  rw [h]
theorem readV_code {n : Nat} {X Y : Int} (hX : 0 ≤ X) (hY : 0 ≤ Y) (hn : Obol.isN (X.toNat, Y.toNat) = true) (h : n = Obol.codeN (X.toNat, Y.toNat)) : readV n = .tuple #[edV X Y, .nilIface] := by
  have h1 := Obol.read_code hn
  rw [← h] at h1
  rw [readV_some h1]
  have e1 : (((X.toNat, Y.toNat).1 : Nat) : Int) = X := Int.toNat_of_nonneg hX
  have e2 : (((X.toNat, Y.toNat).2 : Nat) : Int) = Y := Int.toNat_of_nonneg hY
  rw [e1, e2]
theorem eRead8F (o cap : Nat) (b : Nat) (L : List Nat) (H : B8 8 L) (v : Value) (hv : readV (Obol.num8 L) = v) (w : World) (hc : BL w b o L) :
    Calls Try.prog 7 #[.slice (some ⟨b, o, none⟩) 8 cap] w fun e w' => e = .returned v ∧ Below w.heap.size w w' := by
  subst hv
  exact eRead8 b o cap L H w hc

end Go.Proofs.Ytcdfpceagobicaa
